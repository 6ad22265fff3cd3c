/-
  MANY TEXTS OF MINE IN ONE (a claim has a limit of files): DSh, DGrow, Zsem, DlW5, DlW7, DSort, DClaim, DLaid, TtCon, NmW1, NmW2, NmW3, NmW4, NmW5, NmW6, RcW1, RcW3, RcW4, RcW5, ZoW1, ZoW2, ZoW3, ZoW4, ZoW5, ReW1. Conditions: none.
-/
import Derived.KernelRfl
import Derived.Shelf.Spec.SlicesGrow
import Derived.BigFrame
import Derived.Shelf.SlSortCmp.NoneTotal
import Derived.Carry
import Derived.RowKit
import Derived.ChangeSame
import Derived.OpenShut
import Derived.LaidMore
import Derived.Lay
import Derived.Test.YtipkfnkmdeopeaaGreatDoorMC3
/-
  THE D LAYER, 22: the rules of walks, with the proofs of their small premises written down once. The name ff stands for what a walk knows at a place (one fact behind the other). Conditions: none.
-/
set_option linter.unusedVariables false
namespace Go.DL
variable {P : Program} {ro : Option Nat} {Q : Exit → S → Prop}
attribute [go_sem] List.take_length bne_self_eq_false
@[go_sem] theorem self_ne {n k : Nat} (h : 0 < k) : (n = n + k) = False := eq_false (by omega)
@[go_sem] theorem ne_self {n k : Nat} (h : 0 < k) : (n + k = n) = False := eq_false (by omega)
/-- what the rest is closed by -/
theorem ok0 {p : Prop} (h : p := by first | done | (repeat' (with_reducible apply And.intro)) <;> first | omega | (with_reducible assumption) | (intros; omega) | (intros; simp only [decide_eq_true_eq, decide_eq_false_iff_not, Bool.or_eq_true, Bool.and_eq_true, Bool.or_eq_false_iff, Bool.not_eq_true', Bool.not_eq_false'] at *; omega) | (simp_all; done) | (simp_all; omega)) : p := h
theorem ev {α : Sort _} {a b : α} (h : a = b := by first | (simp only [go_sem, ff]; exact rfl) | (simp only [go_sem, ff]; done) | exact rfl) : a = b := h
theorem iv {p : Prop} (h : p := by first | omega | (with_reducible assumption) | rfl | (simp_all; done) | (simp_all; omega) | (dsimp only; first | omega | (with_reducible assumption) | rfl | (simp_all; done) | (simp_all; omega))) : p := h
section
variable [Glob P] (C : Con) {s : S} {n nx : Nat} {t : Nat → D} {h : H} {ok : Prop} {e : Env} {id : Nat} {ops : Array Oper} {draw : Bool} {x y c : Code}
theorem stp (hq : DW P ro y Q ⟨n, t, h, nx, True, e⟩) (he : exec P (words P) C ops.toList s = ⟨n, t, h, nx, ok, e⟩ := by simp only [go_sem, ff]; exact rfl) (hd : draw = true → P.follows .mixedOrders = true ∧ commOk C ops.toList = true ∧ backOk ops.toList = true := by intro hdr; first | (cases hdr; done) | exact ⟨mix, by kernel_rfl, by kernel_rfl⟩)
    (hok : ok := by (try simp only [go_sem, ff]); all_goals exact ok0) : DW P ro (.seq (.region id ops draw) y) Q s := dw_step he hd hok hq
theorem rgn (hq : Q .normal ⟨n, t, h, nx, True, e⟩) (he : exec P (words P) C ops.toList s = ⟨n, t, h, nx, ok, e⟩ := by simp only [go_sem, ff]; exact rfl) (hd : draw = true → P.follows .mixedOrders = true ∧ commOk C ops.toList = true ∧ backOk ops.toList = true := by intro hdr; first | (cases hdr; done) | exact ⟨mix, by kernel_rfl, by kernel_rfl⟩)
    (hok : ok := by (try simp only [go_sem, ff]); all_goals exact ok0) : DW P ro (.region id ops draw) Q s := dw_reg he hd hok hq
end
section
variable [Glob P] {s : S} {x y c : Code}
theorem cd {o : Operand} {b : Bool} {p q : Prop} (ht : p → DW P ro x Q s) (hf : q → DW P ro y Q s) (hc : s.ev o = .v (.bool b) := by first | (simp only [go_sem, ff]; exact rfl) | exact rfl)
    (hp : (b = true) = p := by first | (simp only [decide_eq_true_eq, decide_eq_false_iff_not, Bool.or_eq_true, Bool.and_eq_true, Bool.or_eq_false_iff, Bool.not_eq_true', Bool.not_eq_false', Bool.and_eq_false_iff, beq_iff_eq, beq_eq_false_iff_ne, bne_iff_ne, bne_eq_false_iff_eq, ne_eq]; exact rfl) | exact rfl)
    (hq : (b = false) = q := by first | (simp only [decide_eq_true_eq, decide_eq_false_iff_not, Bool.or_eq_true, Bool.and_eq_true, Bool.or_eq_false_iff, Bool.not_eq_true', Bool.not_eq_false', Bool.and_eq_false_iff, beq_iff_eq, beq_eq_false_iff_ne, bne_iff_ne, bne_eq_false_iff_eq, ne_eq]; exact rfl) | exact rfl) : DW P ro (.cond o x y) Q s :=
  dw_cond hc (fun h => ht (Eq.mp hp h)) (fun h => hf (Eq.mp hq h))
variable {α : Type} {fx : List (Nat × D)}
theorem lp (keep : List Nat) (A : α → Prop) (μ : α → Nat) (tb : α → List (Nat × D)) (hb : α → List (Nat × Blk)) (nxx : α → Nat) (a0 : α) (hn : s.nx ≤ nxx a0 := by first | exact Nat.le_refl _ | omega) (hA : A a0)
    (round : ∀ a, A a → DW P ro c (thenS (fun s' => ∃ a', A a' ∧ μ a' < μ a ∧ (∀ p ∈ tb a', Tb s'.t p) ∧ (∀ p ∈ fx, Tb s'.t p) ∧ (∀ p ∈ hb a', s'.h p.1 = some p.2) ∧ s'.nx ≤ nxx a' ∧ s'.n = s.n ∧ s'.e = s.e) Q) { n := s.n, t := tab (tb a ++ fx), h := htab (hb a), nx := nxx a, e := s.e })
    (hfx : keep.map (fun i => (i, s.t i)) = fx := by simp only [List.map_cons, List.map_nil, go_sem, ff]; exact rfl)
    (ht : ∀ p ∈ tb a0, Tb s.t p := by first | (simp only [go_sem, ff]; done) | (simp [go_sem, ff]; done) | (simp only [go_sem, ff]; (repeat' (with_reducible apply And.intro)) <;> first | (left; simp; done) | (right; simp [go_sem]; done)))
    (hh : ∀ p ∈ hb a0, s.h p.1 = some p.2 := by first | (simp only [go_sem, ff]; done) | simp [go_sem, ff]) : DW P ro (.loop c) Q s := dw_loop_fix keep A μ tb hb nxx a0 hfx hA ht hh hn round
theorem lph (keep : List Nat) (A : α → Prop) (μ : α → Nat) (tb : α → List (Nat × D)) (hh : α → H) (nxx : α → Nat) (a0 : α) (hn : s.nx ≤ nxx a0 := by first | exact Nat.le_refl _ | omega) (hA : A a0)
    (round : ∀ a, A a → DW P ro c (thenS (fun s' => ∃ a', A a' ∧ μ a' < μ a ∧ (∀ p ∈ tb a', Tb s'.t p) ∧ (∀ p ∈ fx, Tb s'.t p) ∧ (∀ r, hh a' r = s'.h r ∨ hh a' r = none) ∧ s'.nx ≤ nxx a' ∧ s'.n = s.n ∧ s'.e = s.e) Q) { n := s.n, t := tab (tb a ++ fx), h := hh a, nx := nxx a, e := s.e })
    (hfx : keep.map (fun i => (i, s.t i)) = fx := by simp only [List.map_cons, List.map_nil, go_sem, ff]; exact rfl)
    (ht : ∀ p ∈ tb a0, Tb s.t p := by first | (simp only [go_sem, ff]; done) | (simp [go_sem, ff]; done) | (simp only [go_sem, ff]; (repeat' (with_reducible apply And.intro)) <;> first | (left; simp; done) | (right; simp [go_sem]; done)))
    (hhh : ∀ r, hh a0 r = s.h r ∨ hh a0 r = none := by exact less_refl _) : DW P ro (.loop c) Q s := dw_loop_h keep A μ tb hh nxx a0 hfx hA ht hhh hn round
end
/-- the end of a round -/
theorem rnd {α : Type} {A M T F B N E1 E2 : α → Prop} (w : α) (h6 : N w := by first | exact Nat.le_refl _ | omega) (h1 : A w) (h2 : M w := by show (_ : Nat) < _; first | omega | simp_all; omega)
    (h3 : T w := by (try simp only [go_sem, ff]); all_goals (first | done | (simp; done) | (simp; omega) | ((repeat' (with_reducible apply And.intro)) <;> first | (left; simp; done) | (right; simp [go_sem]; done))))
    (h4 : F w := by (try simp only [go_sem, ff]); all_goals (first | done | (simp; done) | (simp; omega) | ((repeat' (with_reducible apply And.intro)) <;> first | (left; simp; done) | (right; simp [go_sem]; done))))
    (h5 : B w := by first | exact less_refl _ | ((try simp only [go_sem, ff]); all_goals (first | done | (simp; done) | (simp; omega) | ((repeat' (with_reducible apply And.intro)) <;> first | (left; simp; done) | (right; simp [go_sem]; done)))))
    (h7 : E1 w := by exact rfl) (h8 : E2 w := by exact rfl) : ∃ a, A a ∧ M a ∧ T a ∧ F a ∧ B a ∧ N a ∧ E1 a ∧ E2 a := ⟨w, h1, h2, h3, h4, h5, h6, h7, h8⟩
/-- the end of a walk -/
theorem fin {A B : Prop} {Ks Rs : Nat → Prop} (K : Nat) (hr : Rs K := by (try simp only [go_sem, ff]); all_goals simp) (hk : Ks K := by (try simp only [go_sem, ff]); all_goals simp)
    (ha : A := by first | exact .inr rfl | exact .inl rfl | trivial | simp) (hb : B := by simp only [go_sem, ff]) : A ∧ B ∧ ∃ k, Ks k ∧ Rs k := ⟨ha, hb, K, hk, hr⟩
theorem finr {A B : Prop} {Hs : H → Prop} {Ns : Nat → Prop} {R : H → Nat → Prop} {n' : Nat} (h' : H) (hn : Ns n' := by first | exact Nat.le_refl _ | omega) (hr : R h' n' := by (try simp only [go_sem, ff]); all_goals simp) (hh : Hs h' := by exact fun _ => .inl rfl)
    (ha : A := by first | exact .inr rfl | exact .inl rfl | trivial | simp) (hb : B := by simp only [go_sem, ff]) : A ∧ B ∧ ∃ h' n', Hs h' ∧ Ns n' ∧ R h' n' := ⟨ha, hb, h', n', hh, hn, hr⟩
section
variable [Glob P] (C : Con) {s s1 : S} {id : Nat} {ops : Array Oper} {o : Oper} {f : Operand} {args : Array Operand} {ts : Array TypeId} {fid : FuncId} {first caps xs : List D} {R : D → H → Nat → Prop}
/-- what is left of a region behind a call -/
def Nxt (P : Program) [Glob P] (C : Con) (L : List Oper) (b i : Nat) (l : List Oper) (u : S) (Q : Exit → S → Prop) : Prop := ∃ s2, execFrom P (words P) C L b i l u = s2 ∧ s2.ok ∧ Q .normal s2.clear
/-- one call that is told by a relation -/
theorem cal1 (k : Nat) (ho : ops[k]? = some o := by exact arr_at rfl) (hop : o.op = .call { callee := .value f, args := args, argTypes := ts } := by exact rfl) (hg : o.guard = none := by exact rfl)
    (he : execFrom P (words P) C ops.toList s.nx 0 (ops.toList.take k) { n := s.n, t := s.t, h := s.h, nx := s.nx + k, ok := s.ok, e := s.e } = s1 := by simp only [List.take_succ_cons, List.take_zero, go_sem, ff]; exact rfl) (hok : s1.ok := by (try simp only [go_sem, ff]); all_goals exact ok0) (hd : dstOk s1.n o.dst = true := by (try simp only [go_sem, ff]); all_goals (first | done | rfl | decide | simp))
    (hf : s1.ev f = .fn (.func fid) first caps := by simp only [go_sem, ff]; exact rfl) (hxg : (args.toList.map s1.ev).all sg = true := by simp only [go_sem, ff]) (hx : ((args.toList.map s1.ev).map sd).map wk = xs := by simp only [go_sem, ff]; exact rfl) (hct : RCt P fid (first ++ xs ++ caps) s1.h (s.nx + k) R)
    (hk : ∀ res h' n', R res h' n' → Nxt P C ops.toList n' (k + 1) (ops.toList.drop (k + 1)) { n := s1.n, t := s1.put o.dst res, h := h', nx := n' + ops.size, ok := True, e := s1.e } Q) :
    DW P ro (.region id ops false) Q s := dw_call k R ho hop hg he hok hd hf hxg hx hct hk
theorem cal2 {L : List Oper} {b i : Nat} {l : List Oper} {u : S} {n nx : Nat} {t : Nat → D} {h : H} {ok : Prop} {e : Env} (hq : Q .normal ⟨n, t, h, nx, True, e⟩) (he : execFrom P (words P) C L b i l u = ⟨n, t, h, nx, ok, e⟩ := by simp only [List.drop_succ_cons, List.drop_zero, S.put, go_sem, ff]; exact rfl) (hok : ok := by (try simp only [go_sem, ff]); all_goals exact ok0) :
    Nxt P C L b i l u Q := ⟨_, he, hok, hq⟩
end
end Go.DL
/-
  THE D LAYER, 25: slices.Grow of a nil slice (the library's proved contract, told on plain data); the builtin clear. Conditions: none.
-/
set_option linter.unusedVariables false
namespace Go.DL
open Go.RowKit
variable {P : Program} {ro : Option Nat} {Q : Exit → S → Prop}
theorem zeroCells_add (cells : Array Value) (a b : Nat) : Builtin.zeroCells cells a ++ Builtin.zeroCells cells b = Builtin.zeroCells cells (a + b) := by
  unfold Builtin.zeroCells
  apply Array.ext
  · simp [Nat.add_mul]
  · intro i h1 h2
    rw [Array.getElem_append]
    split
    · simp
    · rename_i h3
      simp at h3
      simp only [Array.getElem_map, Array.getElem_range, Array.size_map, Array.size_range]
      congr 1
      obtain ⟨j, rfl⟩ : ∃ j, i = a * cells.size + j := ⟨i - a * cells.size, by omega⟩
      rw [Nat.add_sub_cancel_left, Nat.mul_comm a, Nat.mul_add_mod]
theorem grow_rct [Glob P] {ρ : Go.Shelf.Ren} (L : Go.Proofs.Lays8.n4 P ρ) {fG ty : Nat} (hfG : ρ.f 4 = fG) (hty : ρ.t 25 = ty) (hb : hasBody P fG = true) (hz : zeroLen P ty = true) (hp : 0 < P.cellsOf ty) {h : H} {nf m : Nat} (hm : m * P.bytesOf ty ≤ 140737488355328) (h63 : m ≤ 4611686018427387904) :
    RCt P fG [.list true [], .i m] h nf (fun d h' n' => d = .mrow nf 0 0 ∧ h' = upd h nf (some ⟨ty, []⟩) ∧ n' = nf + 1) := by
  refine ⟨hb, fun w g vs hm0 hU hrs => ?_⟩
  obtain ⟨x, vs1, rfl, hx, h1⟩ := hrs.of_cons
  obtain ⟨y, vs2, rfl, hy, h2⟩ := h1.of_cons
  rw [h2.of_nil]
  obtain ⟨a, rfl⟩ := empty_slice hx
  have hy' := hy.v_inv
  subst hy'
  have hnu : ¬ g.U nf := fun k => Nat.lt_irrefl _ (hU _ k)
  obtain ⟨i, hi, hs⟩ := info_of_pos hp
  unfold zeroLen at hz
  cases hzz : i.zero with
  | none => simp [hi, hzz] at hz
  | some z =>
    simp only [hi, hzz, Option.bind_some, beq_iff_eq] at hz
    have hby : i.bytes = P.bytesOf ty := by simp [Program.bytesOf, hi]
    by_cases hm1 : m = 0
    · subst hm1
      have key := Go.Proofs.Any8.slices_Grow_room L a 0 0 0 w (Nat.le_refl _) (by omega) (by omega) (by omega)
      rw [hfG] at key
      refine callsIn_wide.2 (key.mono ?_)
      rintro e w' ⟨rfl, rfl⟩
      obtain ⟨g', g1, g2, g3, g4, g5⟩ := hm0.putNone (h' := upd h nf (some ⟨ty, []⟩)) nf ⟨ty, []⟩ hnu (upd_same _ _ _) (fun r hr => .inl (upd_ne _ _ _ _ hr)) hp rfl
      exact ⟨_, g', _, _, _, ⟨rfl, rfl, rfl⟩, rfl, rep_none g1 ((g2 nf).2 (.inr rfl)) a, g4, g5, fun r hr => by
        rcases (g2 r).1 hr with k | k
        · exact Nat.lt_succ_of_lt (hU r k)
        · subst k; exact Nat.lt_succ_self _⟩
    · have key := Go.Proofs.Any8.slices_Grow_grow L i z (by rw [hty]; exact hi) hzz (by rw [hs]; exact hp) a 0 0 m [] w (Nat.le_refl _) (by omega) (by rw [hby]; simpa using hm) (by omega) (by simp) (fun _ => rfl) (fun _ _ j v hj => by simp at hj)
      rw [hfG, hty] at key
      refine callsIn_wide.2 (key.mono ?_)
      rintro e w' ⟨rfl, rfl⟩
      have hge := grownCap_ge w (0 + m) 0 ty
      obtain ⟨g', k1, k2, k3, k4⟩ := grown_put (h' := upd h nf (some ⟨ty, []⟩)) (rows := []) (cs := []) (z := z) hm0 hnu .nil hp hz (upd_same _ _ _) (fun r hr => .inl (upd_ne _ _ _ _ hr)) (grownCap w (0 + m) 0 ty) (Nat.zero_le _) (by omega) (grownCap_le_maxLen _ _ _ _ (by simp only [maxLen]; omega))
      have hw : (([] : List Value).toArray ++ Builtin.zeroCells z.cells (0 + m - 0) ++ Builtin.zeroCells z.cells (grownCap w (0 + m) 0 ty - (0 + m))) = (([] : List Value).toArray ++ Builtin.zeroCells z.cells (grownCap w (0 + m) 0 ty - ([] : List (List D)).length)) := by
        rw [Array.append_assoc, zeroCells_add]
        congr 2
        simp only [List.length_nil]
        omega
      rw [hw]
      exact ⟨_, g', _, _, _, ⟨rfl, rfl, rfl⟩, rfl, k1, k2, k3, fun r hr => by
        rcases k4 r hr with k | k
        · exact Nat.lt_succ_of_lt (hU r k)
        · subst k; exact Nat.lt_succ_self _⟩
theorem HM.shrink [Glob P] {h : H} {g : Mem} {w : World} (hm : HM P h g w) {r : Nat} {bl : Blk} (hr : h r = some bl) (k : Nat) : HM P (upd h r (some ⟨bl.ty, bl.rows.take k⟩)) g w := by
  refine ⟨fun q hq => ?_, fun q bl' hq => ?_, hm.inj, hm.used, hm.imm, hm.gr⟩
  · by_cases e : q = r
    · subst e; rw [upd_same] at hq; cases hq
    · rw [upd_ne _ _ _ _ e] at hq; exact hm.dead q hq
  · by_cases e : q = r
    · subst e
      rw [upd_same] at hq
      cases hq
      obtain ⟨blk, c, h1, h2, h3, h4, h5⟩ := hm.blk q bl hr
      refine ⟨blk, c, h1, h2, Nat.le_trans (by simp; omega) h3, h4, h5.imp id ?_⟩
      rintro ⟨b, cur, e1, e2, e3, e4, e5⟩
      refine ⟨b, cur, e1, e2, e3, e4, fun i row hi => ?_⟩
      simp only [List.getElem?_take] at hi
      split at hi
      · exact e5 i row hi
      · cases hi
    · rw [upd_ne _ _ _ _ e] at hq; exact hm.blk q bl' hq
/-- CLEAR of a part of a slice: what stands before it is as it was. -/
theorem clear_sound [Glob P] {h : H} {g : Mem} {w : World} (hm : HM P h g w) {t e : TypeId} {r off len : Nat} {rows : List (List D)} {v : Value} (ht : P.underlying t = some (.slice e)) (hr : h r = some ⟨e, rows⟩) (hz : zeroLen P e = true) (ho : (zeroCells P e).all D.one = true)
    (hl : off + len ≤ rows.length) (hv : Rep w g (.mrow r off len) v) (ty : TypeId) :
    ∃ g' w', (Builtin.clear_ #[t] ty #[v]).run P w = .ok (.tuple #[]) w' ∧ HM P (upd h r (some ⟨e, rows.take off⟩)) g' w' ∧ Mono g g' w w' ∧ ∀ r, g'.U r → g.U r := by
  cases hv with | mrow _ _ _ _ hx hU hvv =>
  obtain ⟨blk, c, h1, h2, h3, h4, h5⟩ := hm.blk r _ hr
  simp only at h1 h2 h3 h5
  obtain ⟨p1, p2⟩ := hvv _ _ _ h1
  by_cases hn : len = 0
  · subst hn
    obtain ⟨a, c', rfl, _, _⟩ := hx
    refine ⟨g, w, ?_, hm.shrink hr off, Mono.refl _ _, fun _ k => k⟩
    cases a <;> simp [Builtin.clear_, run_underlying ht]
  · rcases h5 with ⟨_, e0⟩ | ⟨b, cur, rfl, h6, h7, h8, h9⟩
    · omega
    rcases p2 with ⟨e0, _⟩ | ⟨e0, b', hb', rfl⟩
    · omega
    cases hb'
    have h6 := h6.cells p1.2
    have h7 := h7 p1.2
    obtain ⟨i, hi, hs⟩ := info_of_pos h2
    have hz' := hz
    unfold zeroLen at hz
    cases hzz : i.zero with
    | none => simp [hi, hzz] at hz
    | some z =>
      simp only [hi, hzz, Option.bind_some, beq_iff_eq] at hz
      have hzv : ∀ w, (zeroValue e).run P w = .ok z w := fun w => by simp [zeroValue, typeInfo, hi, hzz]
      have hlen : (Builtin.zeroCells z.cells len).toList.length = len * P.cellsOf e := by simp [size_zeroCells, hz]
      have hone : ∀ u ∈ (Builtin.zeroCells z.cells len).toList, u.oneCell' = true := by
        intro u hu
        have hz1 := (zero_rep hi hzz w g ho).2.1
        unfold Builtin.zeroCells at hu
        simp only [Array.toList_map, List.mem_map] at hu
        obtain ⟨k, _, rfl⟩ := hu
        have hk : k % z.cells.size < z.cells.size := Nat.mod_lt _ (by omega)
        rw [getElem!_pos z.cells _ hk]
        exact hz1 _ (by simp)
      have hmul : (off + len) * P.cellsOf e ≤ c * P.cellsOf e := Nat.mul_le_mul_right _ (by omega)
      rw [Nat.add_mul] at hmul
      have hfit : off * P.cellsOf e + (Builtin.zeroCells z.cells len).toList.length ≤ cur.size := by rw [hlen, h7]; exact hmul
      have hst := run_storeCells_at P b (off * P.cellsOf e) e (Builtin.zeroCells z.cells len).toList 0 cur w h6 (by simpa using hfit) hone
      simp only [Nat.add_zero] at hst
      generalize hnew : (List.take (off * P.cellsOf e) cur.toList ++ (Builtin.zeroCells z.cells len).toList ++ List.drop (off * P.cellsOf e + (Builtin.zeroCells z.cells len).toList.length) cur.toList) = new at hst
      have hnl : new.length = cur.size := by
        have e1 : cur.toList.length = cur.size := Array.length_toList
        rw [← hnew, List.length_append, List.length_append, List.length_take, List.length_drop, e1]
        omega
      have hget : ∀ k, k < off * P.cellsOf e → new[k]? = cur[k]? := by
        intro k hk
        rw [← hnew, List.append_assoc, List.getElem?_append_left (by simp only [List.length_take, Array.length_toList]; omega), List.getElem?_take, if_pos hk]
        simp
      obtain ⟨g', g1, g2, g3, g4, g5⟩ := hm.put (h' := upd h r (some ⟨e, rows.take off⟩)) (w' := w.setRow b new.toArray) r b c ⟨e, rows.take off⟩ new.toArray (.inr h1) (upd_same _ _ _) (fun r' hr' => .inl (upd_ne _ _ _ _ hr')) (.inr ⟨r, c, _, h1, .inl rfl⟩)
        (setRow_heap w b cur _ e _ h6) (by simp [hnl, h7]) h2 (by simp; omega) p1.2 (by
          intro i' row' hi'
          simp only [List.getElem?_take] at hi'
          split at hi'
          · rename_i hlt
            obtain ⟨k1, k2⟩ := h9 i' row' hi'
            refine ⟨k1, fun j d hj => ?_⟩
            have hjl : j < P.cellsOf e := by have := (List.getElem?_eq_some_iff.1 hj).1; simp only at k1; omega
            obtain ⟨u, u1, u2, u3⟩ := k2 j d hj
            refine ⟨u, ?_, u2, u3⟩
            simp only [List.getElem?_toArray]
            rw [hget _ (idx_lt hlt hjl)]
            exact u1
          · cases hi') ⟨rfl, rfl, rfl, by simp, fun k _ hk => setRow_other w b k _ (fun e => hk (by rw [e]))⟩
      refine ⟨g', _, ?_, g4, g5, fun r' hr' => ?_⟩
      · obtain ⟨m, rfl⟩ : ∃ m, len = m + 1 := ⟨len - 1, by omega⟩
        simp [Builtin.clear_, run_underlying ht, hzv, hst]
      · rcases (g2 r').1 hr' with k | k
        · exact k
        · subst k; exact hU
theorem seg_clear [Glob P] {C : Con} {s s1 : S} {ops : Array Oper} {i b : Nat} (k : Nat) {o : Oper} {t e : TypeId} {x : Operand} {r off len : Nat} {rows : List (List D)} (hik : i ≤ k) (ho : ops[k]? = some o) (hg : o.guard = none)
    (hop : o.op = .call { callee := .builtin .clear, args := #[x], argTypes := #[t] }) (ht : P.underlying t = some (.slice e)) (hz : zeroLen P e = true) (h1 : (zeroCells P e).all D.one = true)
    (he : execFrom P (words P) C ops.toList b i ((ops.toList.drop i).take (k - i)) s = s1) (hok : s1.ok) (hd : dstOk s1.n o.dst = true) (hx : s1.ev x = .mrow r off len) (hr : s1.h r = some ⟨e, rows⟩) (hl : off + len ≤ rows.length)
    (hk : SegW P ro ops (k + 1) b { n := s1.n, t := s1.put o.dst (.tuple []), h := upd s1.h r (some ⟨e, rows.take off⟩), nx := s1.nx, ok := True, e := s1.e } Q) : SegW P ro ops i b s Q := by
  refine seg_does (C := C) k (fun d h' => d = .tuple [] ∧ h' = upd s1.h r (some ⟨e, rows.take off⟩)) hik ho hg (fun c e => by rw [hop] at e; cases e) he hok hd (fun B g a w hs _ => ?_) (fun d h' ⟨hy, hh⟩ => by subst hy; subst hh; exact hk)
  have hv := ev_rep hs x
  rw [hx] at hv
  obtain ⟨g', w', q1, q2, q3, q4⟩ := clear_sound hs.mem ht hr hz h1 hl hv o.type
  refine ⟨.tuple [], _, ⟨rfl, rfl⟩, .tuple #[], g', w', .inl ?_, .mk_tuple (vs := #[]) .nil, q2, q3, fun r hr => .inl (q4 r hr)⟩
  obtain ⟨od, oo, oty, op, oa, og⟩ := o
  simp only at hop
  subst hop
  simp [Go.BigFrame.execOp_builtin, Go.BigFrame.builtin_clear, q1]
/-- a slice in a slot is written no more, amid a region -/
theorem seg_freezet [Glob P] {s : S} {ops : Array Oper} {i b : Nat} (j r : Nat) {ty : TypeId} {rows : List (List D)} {off len : Nat} (hi : s.t j = .mrow r off len) (hr : s.h r = some ⟨ty, rows⟩) (hl : off + len ≤ rows.length) (hn : nrr rows = true)
    (h : SegW P ro ops i b { n := s.n, t := upd s.t j (.list false ((rows.drop off).take len)), h := upd s.h r none, nx := s.nx, ok := s.ok, e := s.e } Q) : SegW P ro ops i b s Q := by
  intro B g0 g a w0 w hs hm hU
  have mono := frz_mono g r w
  have hst : St P B { n := s.n, t := upd s.t j (.list false ((rows.drop off).take len)), h := upd s.h r none, nx := s.nx, ok := s.ok, e := s.e } (frzMem g r) a w := by
    refine ⟨hs.sz, fun k => ?_, frz_hm hs.mem r, hs.df.later hs.mem mono, Env.later hs.mem mono hs.en, hs.bd⟩
    by_cases e : k = j
    · subst e
      simp only [upd_same]
      have hj := hs.tm k
      rw [hi] at hj
      exact frz_rep hs.mem hr hn hl hj
    · simp only [upd_ne _ _ _ _ e]
      exact (hs.tm k).later hs.mem mono
  exact h B g0 (frzMem g r) a w0 w hst (hm.trans mono) hU
section
variable {C : Con}
/-- A CALL whose arguments keep what is known of their capacities. -/
theorem dw_call0 [Glob P] {s s1 : S} {id : Nat} {ops : Array Oper} (k : Nat) {o : Oper} {f : Operand} {args : Array Operand} {ts : Array TypeId} {fid : FuncId} {first caps xs : List D} (R : D → H → Nat → Prop)
    (ho : ops[k]? = some o) (hop : o.op = .call { callee := .value f, args := args, argTypes := ts }) (hg : o.guard = none)
    (he : execFrom P (words P) C ops.toList s.nx 0 (ops.toList.take k) { n := s.n, t := s.t, h := s.h, nx := s.nx + k, ok := s.ok, e := s.e } = s1) (hok : s1.ok) (hd : dstOk s1.n o.dst = true)
    (hf : s1.ev f = .fn (.func fid) first caps) (hxg : (args.toList.map s1.ev).all sg = true) (hx : (args.toList.map s1.ev).map sd = xs) (hct : RCt P fid (first ++ xs ++ caps) s1.h (s.nx + k) R)
    (hk : ∀ res h' n', R res h' n' → ∃ s2, execFrom P (words P) C ops.toList n' (k + 1) (ops.toList.drop (k + 1)) { n := s1.n, t := s1.put o.dst res, h := h', nx := n' + ops.size, ok := True, e := s1.e } = s2 ∧ s2.ok ∧ Q .normal s2.clear) :
    DW P ro (.region id ops false) Q s := by
  intro B g a w hs hU
  have hlt : k < ops.size := (Array.getElem?_eq_some_iff.1 ho).1
  refine wpIn_region ?_
  have hr : List.range ops.size = List.range' 0 k ++ (k :: List.range' (k + 1) (ops.size - (k + 1))) := by
    rw [List.range_eq_range']
    have : ops.size = k + ((ops.size - (k + 1)) + 1) := by omega
    conv => lhs; rw [this]
    rw [← List.range'_append_1, List.range'_succ]
    simp
  rw [hr]
  have hs0 : St P B { n := s.n, t := s.t, h := s.h, nx := s.nx + k, ok := s.ok, e := s.e } g a w := ⟨hs.sz, hs.tm, hs.mem, hs.df, hs.en, hs.bd⟩
  have e0 : (ops.toList.drop 0).take k = ops.toList.take k := rfl
  refine execSeg_sound (C := C) (b := s.nx) k 0 _ g a w hs0 (Mono.refl _ _) (fun r hr => by have := hU r hr; omega) (by omega) (by rw [e0, he]; exact hok) fun g1 a1 w1 hs1 hm1 hU1 => ?_
  rw [e0, he] at hs1
  rw [wpOpsIn_cons]
  unfold wpOpIn
  rw [ho]
  simp only
  have hw : Region.wanted o (yielded ops a1.tmps) = true := by simp [Region.wanted, hg]
  rw [if_pos hw]
  have hdef : ∀ c, o.op ≠ .defer c := by intro c e; rw [e] at hop; cases hop
  have hsem : o.semAt (Fw ro).round a1.eval = execOp a1.eval o := Oper.semAt_eq _ _ _ hdef
  refine ⟨fun _ _ => trivial, ?_⟩
  rw [hsem]
  obtain ⟨hbd, hct⟩ := hct
  have hfr := ev_rep hs1 f
  rw [hf] at hfr
  have hxr := strips_rep (evs_rep hs1 args.toList) hxg
  rw [hx] at hxr
  generalize hv : a1.eval f = vf at hfr
  cases hfr with | fn _ _ _ fs cs l1 l2 r1 r2 =>
  have hrun : (execOp a1.eval o).run P w1 = .ok (.enter fid (fs ++ args.map a1.eval ++ cs)) w1 := by
    simp [execOp, hop, resolve, Deferred.ofValue, hv, invoke, callFunc_run hbd]
  rw [hrun, Oper.uponIn_enter]
  have e : fs ++ args.map a1.eval ++ cs = (fs.toList ++ args.toList.map a1.eval ++ cs.toList).toArray := by apply Array.ext'; simp
  rw [e]
  refine ⟨fun h => by simp [Fw, Fence.wide] at h, callsIn_Fw ((hct w1 g1 _ hs1.mem (fun r hr => by have := hU1 r hr; omega) (Reps.append (Reps.append ⟨by simpa using l1, fun i d x h1 h2 => r1 i d x h1 (by simpa using h2)⟩ hxr) ⟨by simpa using l2, fun i d x h1 h2 => r2 i d x h1 (by simpa using h2)⟩)).mono ?_)⟩
  rintro e w' ⟨v, g', res, h', n', hR, rfl, q1, q2, q3, q4⟩
  obtain ⟨s2, e2, ok2, hQ⟩ := hk res h' n' hR
  have hs2 := put_st hs1 q3 q2 hd q1 True
  have hs3 : St P B { n := s1.n, t := s1.put o.dst res, h := h', nx := n' + ops.size, ok := True, e := s1.e } g' (a1.put o.dst v) w' := ⟨hs2.sz, hs2.tm, hs2.mem, hs2.df, hs2.en, hs2.bd⟩
  have hnx : ∀ (l : List Oper) (i : Nat) (u : S), (execFrom P (words P) C ops.toList n' i l u).nx = u.nx := by
    intro l
    induction l with
    | nil => intro i u; rfl
    | cons x l ih => intro i u; simp only [execFrom]; rw [ih, exec1_n.2]
  have hex : ∀ (l : List Oper) (i b : Nat) (u : S), (execFrom P (words P) C ops.toList b i l u).e = u.e := by
    intro l
    induction l with
    | nil => intro i b u; rfl
    | cons x l ih =>
      intro i b u
      simp only [execFrom]
      rw [ih]
      unfold exec1
      split <;> rfl
  have e3 : (ops.toList.drop (k + 1)).take (ops.size - (k + 1)) = ops.toList.drop (k + 1) := List.take_of_length_le (by simp)
  have := execSeg_sound (ro := ro) (P := P) (C := C) (B := B) (ops := ops) (b := n') (n := 0) (rest := []) (g0 := g) (w0 := w) (Q := fun e a' w' => ∃ s' g', Q e s' ∧ St P B s' g' a' w' ∧ MonoX s.e.x g g' w w' ∧ (∀ r, g'.U r → r < s'.nx) ∧ s'.e.x = s.e.x) (ops.size - (k + 1)) (k + 1) _ g' _ w' hs3 (hm1.trans q3) (fun r hr => by have := q4 r hr; omega) (by omega)
    (by rw [e3, e2]; exact ok2) fun g'' a'' w'' p1 p2 p3 => by
      rw [e3, e2] at p1
      refine ⟨_, g'', hQ, p1.clear, p2.toX, fun r hr => ?_, ?_⟩
      · have h3 := p3 r hr
        have h4 := hnx (ops.toList.drop (k + 1)) (k + 1) { n := s1.n, t := s1.put o.dst res, h := h', nx := n' + ops.size, ok := True, e := s1.e }
        rw [e2] at h4
        show r < s2.nx
        rw [h4]
        show r < n' + ops.size
        omega
      · have h5 := hex (ops.toList.drop (k + 1)) (k + 1) n' { n := s1.n, t := s1.put o.dst res, h := h', nx := n' + ops.size, ok := True, e := s1.e }
        rw [e2] at h5
        have h6 := hex (ops.toList.take k) 0 s.nx { n := s.n, t := s.t, h := s.h, nx := s.nx + k, ok := s.ok, e := s.e }
        rw [he] at h6
        show s2.e.x = s.e.x
        rw [h5]
        show s1.e.x = s.e.x
        rw [h6]
  rw [List.append_nil] at this
  exact this
end
section
variable [Glob P] (C : Con) {s s1 : S} {id : Nat} {ops : Array Oper} {o : Oper} {f : Operand} {args : Array Operand} {ts : Array TypeId} {fid : FuncId} {first caps xs : List D} {R : D → H → Nat → Prop}
/-- one call that is told by a relation -/
theorem cal0 (k : Nat) (ho : ops[k]? = some o := by exact arr_at rfl) (hop : o.op = .call { callee := .value f, args := args, argTypes := ts } := by exact rfl) (hg : o.guard = none := by exact rfl)
    (he : execFrom P (words P) C ops.toList s.nx 0 (ops.toList.take k) { n := s.n, t := s.t, h := s.h, nx := s.nx + k, ok := s.ok, e := s.e } = s1 := by simp only [List.take_succ_cons, List.take_zero, go_sem, ff]; exact rfl) (hok : s1.ok := by (try simp only [go_sem, ff]); all_goals exact ok0) (hd : dstOk s1.n o.dst = true := by (try simp only [go_sem, ff]); all_goals (first | done | rfl | decide | simp))
    (hf : s1.ev f = .fn (.func fid) first caps := by simp only [go_sem, ff]; exact rfl) (hxg : (args.toList.map s1.ev).all sg = true := by simp only [go_sem, ff]) (hx : (args.toList.map s1.ev).map sd = xs := by simp only [go_sem, ff]; exact rfl) (hct : RCt P fid (first ++ xs ++ caps) s1.h (s.nx + k) R)
    (hk : ∀ res h' n', R res h' n' → Nxt P C ops.toList n' (k + 1) (ops.toList.drop (k + 1)) { n := s1.n, t := s1.put o.dst res, h := h', nx := n' + ops.size, ok := True, e := s1.e } Q) :
    DW P ro (.region id ops false) Q s := dw_call0 k R ho hop hg he hok hd hf hxg hx hct hk
end
end Go.DL
/-
  MADE BY A PROGRAM OF MINE: what the closures that are handed to collect say. Conditions: none.
-/
namespace Go.Zon
open Go.DL
def semS (f : D) : Sgd → Option Sgd := match f with
  | .fn (.func k) _ [d] => if k = 69 then d2S (mapc1 d) else goS (mapc1 d)
  | _ => some
@[go_sem] theorem semS_d2 {m : PM} : semS (.fn (.func 69) [] [.eptr [.fmap (kvP m)]]) = d2S m := congrArg d2S (of_kvP m)
@[go_sem] theorem semS_79 {m : PM} : semS (.fn (.func 79) [] [.eptr [.fmap (kvP m)]]) = goS m := congrArg goS (of_kvP m)
@[go_sem] theorem semS_137 {m : PM} : semS (.fn (.func 137) [] [.eptr [.fmap (kvP m)]]) = goS m := congrArg goS (of_kvP m)
@[go_sem] theorem semS_82 : semS (.fn (.func 82) [] []) = some := rfl
@[go_sem] theorem semS_145 : semS (.fn (.func 145) [] []) = some := rfl
end Go.Zon
namespace Go.Proofs.YtipkfnkmdeopeaaGreatDoor
open Go.DL Go.Str Go.Rec Go.Cmp Go.Zon
set_option maxRecDepth 10000
set_option linter.unusedSimpArgs false
set_option linter.unusedVariables false


end Go.Proofs.YtipkfnkmdeopeaaGreatDoor
namespace Go.Proofs.YtipkfnkmdeopeaaGreatDoor
open Go.DL Go.Str Go.Rec Go.Cmp Go.Zon
set_option maxRecDepth 10000
set_option linter.unusedSimpArgs false
set_option linter.unusedVariables false


end Go.Proofs.YtipkfnkmdeopeaaGreatDoor
/-
  THE D LAYER, 18: slices.SortFunc on a block that may be written (structs): the library's proved contract, told on plain data. Conditions: none.
-/
namespace Go.DL
open Go.RowKit
variable {P : Program}

/-- sorted by 'not greater' -/
def SortedBy (cf : List D → List D → Int) (rows : List (List D)) : Prop := rows.Pairwise fun x y => ¬ cf y x < 0
/-- a strict weak order, on these -/
structure SwoOn (cf : List D → List D → Int) (rows : List (List D)) : Prop where
  irrefl : ∀ x ∈ rows, ¬ cf x x < 0
  trans : ∀ x ∈ rows, ∀ y ∈ rows, ∀ z ∈ rows, cf x y < 0 → cf y z < 0 → cf x z < 0
  ntrans : ∀ x ∈ rows, ∀ y ∈ rows, ∀ z ∈ rows, ¬ cf x y < 0 → ¬ cf y z < 0 → ¬ cf x z < 0

theorem sortWorld_heap (enc : Nat → List Value) (k : Nat) (w : World) (b m : Nat) (d : Array Nat) (os : Array Obj) (i : Nat) (hi : i < w.heap.size) (hb : i ≠ b) : (Go.Proofs.sortWorldK enc k w b 0 m d os).heap[i]? = w.heap[i]? := by
  unfold Go.Proofs.sortWorldK Go.Sort.putRowK Go.Sort.putRow Go.Sort.mapBlock Go.Sort.grow
  simp only [Go.Sort.ahead]
  rw [Array.getElem?_append_left (by simpa using hi), Array.getElem?_modify, if_neg (Ne.symm hb)]
theorem sortWorld_at (enc : Nat → List Value) (k : Nat) (w : World) (b m : Nat) (d : Array Nat) (os : Array Obj) {cur : Array Value} {ty : TypeId} (hb : w.heap[b]? = some (.cells cur ty (0, 0))) :
    (Go.Proofs.sortWorldK enc k w b 0 m d os).heap[b]? = some (.cells (Go.Sort.putCells id 0 (Go.Sort.flatK enc k d) cur) ty (0, 0)) := by
  have hi : b < w.heap.size := (Array.getElem?_eq_some_iff.1 hb).1
  unfold Go.Proofs.sortWorldK Go.Sort.putRowK Go.Sort.putRow Go.Sort.mapBlock Go.Sort.grow
  simp only [Go.Sort.ahead]
  rw [Array.getElem?_append_left (by simpa using hi), Array.getElem?_modify, if_pos rfl, hb]
  rfl
theorem sortWorld_size (enc : Nat → List Value) (k : Nat) (w : World) (b m : Nat) (d : Array Nat) (os : Array Obj) : (Go.Proofs.sortWorldK enc k w b 0 m d os).heap.size = w.heap.size + os.size := by
  unfold Go.Proofs.sortWorldK Go.Sort.putRowK Go.Sort.putRow Go.Sort.mapBlock Go.Sort.grow
  simp [Go.Sort.ahead]
theorem bel_grow {w w' : World} (h : Bel w w') : ∃ q os, w' = Go.Sort.grow (w.drewN q) os := by
  refine ⟨w'.drawn - w.drawn, w'.heap.extract w.heap.size w'.heap.size, ?_⟩
  obtain ⟨h1, h2, h3, h4, h5, h6⟩ := h
  have hh : w'.heap = w.heap ++ w'.heap.extract w.heap.size w'.heap.size := by
    apply Array.ext_getElem?
    intro i
    by_cases hi : i < w.heap.size
    · rw [Array.getElem?_append_left hi, h6 i hi]
    · rw [Array.getElem?_append_right (by omega), Array.getElem?_extract]
      by_cases hj : i < w'.heap.size
      · rw [if_pos (by omega)]
        congr 1
        omega
      · rw [if_neg (by omega), Array.getElem?_eq_none (by omega)]
  cases w'
  cases w
  simp only at h1 h2 h3 h5 hh
  simp only [Go.Sort.grow, World.drewN, World.mk.injEq]
  refine ⟨hh, h2, ?_, h1, h3⟩
  omega

theorem sort_rct [Glob P] {ρ : Go.Shelf.Ren} (L : Go.Proofs.SlLaysF0.n6 P ρ) {fS ty : Nat} (hfS : ρ.f 6 = fS) (hty : ρ.t 24 = ty) (aE : ∀ w, (isAgg ty).run P w = .ok true w) (zE : ∀ w, (Go.sizeOf ty).run P w = .ok (P.cellsOf ty) w)
    {r nf g : Nat} {rows : List (List D)} {h : H} {caps : List D} (cf : List D → List D → Int) (hbS : hasBody P fS = true) (hr : h r = some ⟨ty, rows⟩) (hnr : nrr rows = true) (hcn : caps.all D.nr = true) (hmax : rows.length < 4611686018427387904)
    (hcmp : ∀ x ∈ rows, ∀ y ∈ rows, PureCt P g ([.agg x, .agg y] ++ caps) (.i (cf x y))) (hO : SwoOn cf rows) :
    RCt P fS [.mrow r 0 rows.length, .fn (.func g) [] caps] h nf (fun d h' n' => d = .tuple [] ∧ n' = nf ∧ ∃ rows', rows'.Perm rows ∧ SortedBy cf rows' ∧ h' = upd h r (some ⟨ty, rows'⟩)) := by
  refine ⟨hbS, fun w gm vs hm hU hrs => ?_⟩
  obtain ⟨x, vs1, rfl, hx, h1⟩ := hrs.of_cons
  obtain ⟨f, vs2, rfl, hf, h2⟩ := h1.of_cons
  rw [h2.of_nil]
  cases hf with | fn _ _ _ fs cs l1 l2 r1 r2 =>
  have hfs : fs = #[] := Array.eq_empty_of_size_eq_zero (by simpa using l1.symm)
  subst hfs
  cases hx with | mrow _ _ _ _ _ hUr hv =>
  obtain ⟨blk, c, q1, q2, q3, q4, q5⟩ := hm.blk r _ hr
  obtain ⟨v1, v2⟩ := hv _ _ _ q1
  by_cases hne : rows = []
  · subst hne
    have hx' : ∃ p cap, x = .slice p 0 cap := by
      rcases v2 with ⟨_, a, rfl⟩ | ⟨_, b, _, rfl⟩
      · exact ⟨a, 0, rfl⟩
      · exact ⟨_, _, rfl⟩
    obtain ⟨p, cap, rfl⟩ := hx'
    have key := Go.Proofs.AnyF.slices_SortFunc_none L p cap (.func (.func g) #[] cs) w
    rw [hfS] at key
    refine callsIn_wide.2 (key.mono ?_)
    rintro e w' ⟨rfl, rfl⟩
    refine ⟨_, gm, _, h, nf, ⟨rfl, rfl, [], .refl _, .nil, ?_⟩, rfl, .mk_tuple (vs := #[]) .nil, hm, Mono.refl _ _, hU⟩
    funext i
    unfold upd
    split
    · rename_i e; subst e; exact hr
    · rfl
  · have hn0 : 0 < rows.length := List.length_pos_iff.2 hne
    rcases q5 with ⟨_, q5⟩ | ⟨b, cur, rfl, q6, q7, q8, q9⟩
    · simp only at q3; omega
    have q6 := q6.cells v1.2
    have q7 := q7 v1.2
    have q4 := v1.2
    rcases v2 with ⟨e0, a, rfl⟩ | ⟨hc0, b', hb', rfl⟩
    · simp only at q3; omega
    cases hb'
    have hbw : b < w.heap.size := (Array.getElem?_eq_some_iff.1 q6).1
    generalize hk : P.cellsOf ty = k at *
    simp only at q3
    -- the values of a row, by its number
    let ix : Nat → Nat := fun i => if i < rows.length then i else 0
    have hix : ∀ i, ix i < rows.length := fun i => by simp only [ix]; split <;> assumption
    have hixs : ∀ i, i < rows.length → ix i = i := fun i hi => by simp only [ix]; rw [if_pos hi]
    let enc : Nat → List Value := fun i => (List.range k).map fun j => cur.getD (ix i * k + j) undef
    have hklen : ∀ i, (enc i).length = k := fun i => by simp [enc]
    have hrow : ∀ i, i < rows.length → (rows.getD i []).length = k ∧ ∀ (j : Nat) d, (rows.getD i [])[j]? = some d → (enc i)[j]? = some (cur.getD (i * k + j) undef) ∧ cur[i * k + j]? = some (cur.getD (i * k + j) undef) ∧ (cur.getD (i * k + j) undef).oneCell' = true ∧ Rep w gm d (cur.getD (i * k + j) undef) := by
      intro i hi
      have e1 : rows[i]? = some (rows.getD i []) := by simp [List.getD, hi]
      obtain ⟨p1, p2⟩ := q9 i _ e1
      simp only [hk] at p1 p2
      refine ⟨p1, fun j d hd => ?_⟩
      obtain ⟨u, u1, u2, u3⟩ := p2 j d hd
      have e2 : cur.getD (i * k + j) undef = u := by simp [Array.getD_eq_getD_getElem?, u1]
      have hj : j < k := by rw [← p1]; exact (List.getElem?_eq_some_iff.1 hd).1
      rw [e2]
      refine ⟨by simp [enc, hj, hixs i hi]; rw [← e2]; simp [Array.getD_eq_getD_getElem?], u1, u2, u3⟩
    have hencI : ∀ i, enc i = enc (ix i) := fun i => by simp only [enc]; rw [hixs (ix i) (hix i)]
    have hone : ∀ i, ∀ v ∈ enc i, v.oneCell' = true := by
      intro i v hv
      rw [hencI] at hv
      obtain ⟨j, hj⟩ := List.getElem?_of_mem hv
      have hjk : j < k := by rw [← hklen (ix i)]; exact (List.getElem?_eq_some_iff.1 hj).1
      obtain ⟨p1, p2⟩ := hrow (ix i) (hix i)
      have hd : (rows.getD (ix i) [])[j]? = some ((rows.getD (ix i) [])[j]'(by omega)) := by simp
      obtain ⟨u1, _, u2, _⟩ := p2 j _ hd
      rw [u1] at hj
      cases hj
      exact u2
    let rw' : Nat → List D := fun i => rows.getD (ix i) []
    have hmem : ∀ i, rw' i ∈ rows := fun i => by
      have : rw' i = rows[ix i]'(hix i) := by simp [rw', List.getD, hix i]
      rw [this]; exact List.getElem_mem _
    let cn : Nat → Nat → Int := fun i j => cf (rw' i) (rw' j)
    have hswo : Go.Sort.SWO (Go.Proofs.ltOf cn) := by
      refine ⟨fun x => ?_, fun x y z p1 p2 => ?_, fun x y z p1 p2 => ?_⟩
      · simp only [Go.Proofs.ltOf, cn, decide_eq_false_iff_not]; exact hO.irrefl _ (hmem x)
      · simp only [Go.Proofs.ltOf, cn, decide_eq_true_eq] at *; exact hO.trans _ (hmem x) _ (hmem y) _ (hmem z) p1 p2
      · simp only [Go.Proofs.ltOf, cn, decide_eq_false_iff_not] at *; exact hO.ntrans _ (hmem x) _ (hmem y) _ (hmem z) p1 p2
    let d : Array Nat := Array.range rows.length
    have hds : d.size = rows.length := by simp [d]
    have hdg : ∀ i, i < rows.length → d[i]! = i := fun i hi => by simp [d, hi]
    have hmodlt : ∀ t, t < rows.length * k → t / k < rows.length ∧ t % k < k := fun t ht => ⟨Nat.div_lt_of_lt_mul (by rw [Nat.mul_comm]; exact ht), Nat.mod_lt _ q2⟩
    have hget : ∀ i j, i < rows.length → j < k → (enc i)[j]! = cur.getD (i * k + j) undef := by
      intro i j hi hj
      obtain ⟨p1, p2⟩ := hrow i hi
      have hd : (rows.getD i [])[j]? = some ((rows.getD i [])[j]'(by omega)) := by simp
      rw [List.getElem!_eq_getElem?_getD, (p2 j _ hd).1]; rfl
    have hH : Go.Sort.HoldsK enc k w b 0 d := by
      intro t ht
      simp only [Go.Sort.size_flatK, hds] at ht
      rw [Go.Sort.get_flatK _ _ _ _ (by rw [hds]; exact ht)]
      obtain ⟨t1, t2⟩ := hmodlt t ht
      rw [hdg _ t1, hget _ _ t1 t2]
      have e : t / k * k + t % k = t := by rw [Nat.mul_comm]; exact Nat.div_add_mod t k
      rw [e, Nat.zero_add]
      have hlt : t < cur.size := by rw [q7]; exact Nat.lt_of_lt_of_le ht (Nat.mul_le_mul_right k q3)
      refine ⟨?_, ?_⟩
      · simp [World.cell?, q6, hlt, id, Array.getD_eq_getD_getElem?]
      · simp [World.frozen?, q6]
    have hcl : Go.Proofs.CmpLays P g cs enc k cn b 0 d.size w := by
      intro m os dk hdk x y
      obtain ⟨hbd, _, hct⟩ := hcmp _ (hmem x) _ (hmem y)
      have hW := sortWorld_size enc k w b m dk os
      have hI : ∀ b', gm.I b' → b' < (Go.Proofs.sortWorldK enc k w b 0 m dk os).heap.size := fun b' hb' => by rw [hW]; have := hm.imm b' hb'; omega
      have hrep : ∀ {d : D} {v : Value}, d.nr = true → Rep w gm d v → Rep (Go.Proofs.sortWorldK enc k w b 0 m dk os) (noM gm.I) d v := by
        intro d v hd hv
        have h1 := Rep.clean (g' := noM gm.I) hv hd (fun b hb => hb)
        refine Rep.mono (g := noM gm.I) (g' := noM gm.I) (fun b' hb' => ⟨hb', ?_⟩) (fun _ h => h) (fun _ h => .inl rfl) h1
        exact sortWorld_heap enc k w b m dk os b' (hm.imm b' hb') (fun e => q8 (e ▸ hb'))
      have hagg : ∀ i, Rep (Go.Proofs.sortWorldK enc k w b 0 m dk os) (noM gm.I) (.agg (rw' i)) (.agg (enc i).toArray) := by
        intro i
        rw [hencI i]
        obtain ⟨p1, p2⟩ := hrow (ix i) (hix i)
        refine .mk_agg ⟨by rw [p1, hklen], fun j d v e1 e2 => ?_⟩
        obtain ⟨u1, _, _, u4⟩ := p2 j d e1
        rw [u1] at e2
        cases e2
        exact hrep (nrs_mem (nrr_mem hnr (hmem i)) (List.mem_of_getElem? e1)) u4
      have hargs : Reps (Go.Proofs.sortWorldK enc k w b 0 m dk os) (noM gm.I) ([.agg (rw' x), .agg (rw' y)] ++ caps) ([.agg (enc x).toArray, .agg (enc y).toArray] ++ cs.toList) := by
        refine Reps.append (.cons (hagg x) (.cons (hagg y) .nil)) ⟨by simpa using l2, fun i d v e1 e2 => ?_⟩
        exact hrep (List.all_eq_true.1 hcn d (List.mem_of_getElem? e1)) (r2 i d v e1 (by simpa using e2))
      have := callsIn_wide.1 (hct _ gm.I _ hI (hm.gr.later fun b' hb' => ⟨hb', sortWorld_heap enc k w b m dk os b' (hm.imm b' hb') (fun e => q8 (e ▸ hb'))⟩) hargs)
      have ea : ([.agg (enc x).toArray, .agg (enc y).toArray] ++ cs.toList : List Value).toArray = #[.agg (enc x).toArray, .agg (enc y).toArray] ++ cs := by apply Array.ext'; simp
      rw [ea] at this
      refine this.mono ?_
      rintro e w' ⟨v, rfl, hb, hv⟩
      refine ⟨?_, bel_grow hb⟩
      rw [hv.v_inv]
    have key := Go.Proofs.AnyQ.slices_SortFunc L k (by rw [hty]; exact aE) (by rw [hty]; exact zE) enc hklen hone cn hswo g cs b 0 c d w (fun args w => callFunc_run (hcmp _ (hmem 0) _ (hmem 0)).1 args w) hcl hH hbw (by rw [hds]; exact hmax)
    rw [hfS, hds] at key
    have ev : (Value.slice (some ⟨b, 0 * k, Option.none⟩) rows.length (c - 0)) = Value.slice (some ⟨b, 0, Option.none⟩) rows.length c := by simp
    rw [ev]
    refine callsIn_wide.2 (key.mono ?_)
    rintro e w' ⟨rfl, d', n', os, hperm, hsort, rfl⟩
    obtain ⟨hsz, _, hpm⟩ := hperm
    rw [hds] at hsz
    have hex : ∀ a : Array Nat, a.size = rows.length → a.extract 0 rows.length = a := fun a ha => by rw [← ha]; exact Array.extract_size
    rw [hex d' hsz, hex d hds] at hpm
    have hlt' : ∀ i, i < rows.length → d'[i]! < rows.length := by
      intro i hi
      have h1 : d'[i]! ∈ d'.toList := by
        rw [getElem!_pos d' i (by omega)]
        simp
      have := hpm.mem_iff.1 h1
      simpa [d] using this
    let rows' : List (List D) := d'.toList.map rw'
    have hrows : d.toList.map rw' = rows := by
      apply List.ext_getElem?
      intro i
      by_cases hi : i < rows.length
      · simp [d, hi, rw', hixs i hi, List.getD]
      · simp [d, hi]
    have hP : rows'.Perm rows := by rw [← hrows]; exact hpm.map rw'
    have hS : SortedBy cf rows' := by
      unfold SortedBy
      rw [List.pairwise_iff_getElem]
      intro i j hi hj hij
      have hj' : j < rows.length := by simpa [rows', hsz] using hj
      have := hsort i j (Nat.zero_le _) hij hj'
      simp only [Go.Proofs.ltOf, cn, decide_eq_false_iff_not] at this
      rw [getElem!_pos d' i (by omega), getElem!_pos d' j (by omega)] at this
      simpa [rows'] using this
    have hl' : rows'.length = rows.length := by simp [rows', hsz]
    have hput := hm.put (h' := upd h r (some ⟨ty, rows'⟩)) (w' := Go.Proofs.sortWorldK enc k w b 0 n' d' os) r b c ⟨ty, rows'⟩ (Go.Sort.putCells id 0 (Go.Sort.flatK enc k d') cur)
      (.inr (by simp only [hk]; exact q1)) (upd_same _ _ _) (fun r' hr' => .inl (upd_ne _ _ _ _ hr')) (.inr ⟨r, c, _, q1, .inl rfl⟩) (sortWorld_at enc k w b n' d' os q6) (by simp [Go.Sort.putCells, q7, hk]) (by simp only [hk]; exact q2)
      (by simp only [hl']; exact q3) q4 (by
        intro i row hi
        have hil : i < rows.length := by rw [← hl']; exact (List.getElem?_eq_some_iff.1 hi).1
        have e1 : row = rows.getD (d'[i]!) [] := by
          simp only [rows', List.getElem?_map] at hi
          rw [getElem!_pos d' i (by omega)]
          have : d'.toList[i]? = some d'[i] := by simp
          rw [this] at hi
          simp only [Option.map_some, Option.some.injEq] at hi
          rw [← hi]
          simp only [rw']
          rw [hixs _ (by have := hlt' i hil; rwa [getElem!_pos d' i (by omega)] at this)]
        obtain ⟨p1, p2⟩ := hrow _ (hlt' i hil)
        rw [← e1] at p1 p2
        simp only [hk]
        refine ⟨p1, fun j dd hd => ?_⟩
        have hjk : j < k := by rw [← p1]; exact (List.getElem?_eq_some_iff.1 hd).1
        obtain ⟨u1, u2, u3, u4⟩ := p2 j dd hd
        have hbound : i * k + j < rows.length * k := by
          have := Nat.mul_le_mul_right k (show i + 1 ≤ rows.length from hil)
          rw [Nat.add_mul, Nat.one_mul] at this; omega
        have hcs : i * k + j < cur.size := by rw [q7]; exact Nat.lt_of_lt_of_le hbound (Nat.mul_le_mul_right k q3)
        refine ⟨_, ?_, u3, u4⟩
        have hdiv : (i * k + j) / k = i := by rw [Nat.mul_comm, Nat.mul_add_div q2, Nat.div_eq_of_lt hjk]; rfl
        have hmod : (i * k + j) % k = j := by rw [Nat.mul_comm, Nat.mul_add_mod, Nat.mod_eq_of_lt hjk]
        simp only [Go.Sort.putCells, Array.getElem?_mapIdx, Array.getElem?_eq_getElem hcs, Option.map_some]
        rw [if_pos ⟨Nat.zero_le _, by simp only [Go.Sort.size_flatK, hsz]; omega⟩, Nat.sub_zero, Go.Sort.get_flatK _ _ _ _ (by rw [hsz]; exact hbound), hdiv, hmod, hget _ _ (hlt' i hil) hjk]
        rfl)
      ⟨rfl, rfl, rfl, by rw [sortWorld_size]; omega, fun i hi hne => sortWorld_heap enc k w b n' d' os i hi (fun e => hne (by rw [e]))⟩ (by unfold Go.Proofs.sortWorldK Go.Sort.putRowK Go.Sort.putRow Go.Sort.mapBlock Go.Sort.grow Go.Sort.ahead; exact Nat.le_add_right _ _)
    obtain ⟨g', g1, g2, g3, g4, g5⟩ := hput
    exact ⟨_, g', _, _, nf, ⟨rfl, rfl, rows', hP, hS, rfl⟩, rfl, .mk_tuple (vs := #[]) .nil, g4, g5, fun r' hr' => by
      rcases (g2 r').1 hr' with h | h
      · exact hU _ h
      · subst h; exact hU _ hUr⟩
end Go.DL
/-
  THE D LAYER, 19: from a contract on plain data to a given row: what arguments read as; a law that answers true. Conditions: none.
-/
namespace Go.DL
open Go.RowKit Go.ChangeShapes Go.WideShapes
variable {P : Program}

/-! ### data of a type -/
def ShSt (Q : TypeId → List D → Prop) : List Field → List D → Prop
  | [], ds => ds = []
  | f :: fs, ds => ∃ a b, ds = a ++ b ∧ Q f.type a ∧ ShSt Q fs b
def Sh (P : Program) [Glob P] : Nat → TypeId → List D → Prop
  | 0, _, _ => False
  | k + 1, t, ds => match P.underlying t with
    | some .bool => ∃ b, ds = [.v (.bool b)]
    | some (.int q) => ∃ n, ds = [.v (.int q n)] ∧ (Lit.int q n).wf = true
    | some .string => ∃ s, ds = [.v (.string s)] ∧ s.size ≤ maxLen
    | some (.slice e) => ∃ rows, ds = [.list false rows] ∧ ∀ r ∈ rows, Sh P k e r
    | some (.struct fs) => ShSt (Sh P k) fs.toList ds
    | _ => False
def shB (P : Program) [Glob P] : Nat → TypeId → Bool
  | 0, _ => false
  | k + 1, t => match P.underlying t with
    | some .bool | some (.int _) | some .string => true
    | some (.slice e) => decide (0 < P.cellsOf e) && decide (e < P.types.size) && shB P k e
    | some (.struct fs) => fs.toList.all fun f => decide (f.type < P.types.size) && shB P k f.type
    | _ => false
/-- cells that stand for data -/
def RepC (w : World) (g : Mem) (ds : List D) (cs : List Value) : Prop := Reps w g ds cs ∧ ∀ v ∈ cs, v.oneCell' = true
theorem RepC.nil {w : World} {g : Mem} : RepC w g [] [] := ⟨.nil, fun v h => by cases h⟩
theorem RepC.one {w : World} {g : Mem} {d : D} {v : Value} (h : Rep w g d v) (h1 : v.oneCell' = true) : RepC w g [d] [v] :=
  ⟨.cons h .nil, fun u hu => by rw [List.mem_singleton] at hu; subst hu; exact h1⟩
theorem RepC.append {w : World} {g : Mem} {ds es : List D} {cs us : List Value} (h : RepC w g ds cs) (k : RepC w g es us) : RepC w g (ds ++ es) (cs ++ us) :=
  ⟨h.1.append k.1, fun v hv => (List.mem_append.1 hv).elim (h.2 v) (k.2 v)⟩
theorem cells_block {w : World} {a : Addr} {v : Value} (h : w.cell? a = some v) : a.block < w.heap.size := by
  unfold World.cell? at h
  split at h
  · rename_i c _ _ hb; exact (Array.getElem?_eq_some_iff.1 hb).1
  · cases h
theorem cells_get {w : World} {base : Nat} {a : Addr} {n : Nat} {cs : List Value} (h : w.cells? base a n = some cs) : cs.length = n ∧ ∀ j, j < n → w.cell? (a.add j) = cs[j]? := by
  unfold World.cells? at h
  split at h
  · have key : ∀ (l : List Nat) (cs : List Value), l.mapM (fun i => w.cell? (a.add i)) = some cs → cs.length = l.length ∧ ∀ (j i : Nat), l[j]? = some i → w.cell? (a.add i) = cs[j]? := by
      intro l
      induction l with
      | nil => intro cs h; simp at h; subst h; exact ⟨rfl, fun j i h => by simp at h⟩
      | cons i l ih =>
        intro cs h
        rw [List.mapM_cons] at h
        cases hc : w.cell? (a.add i) with
        | none => rw [hc] at h; simp at h
        | some v =>
          rw [hc] at h
          simp only [Option.bind_eq_bind, Option.bind_some] at h
          cases hr : l.mapM (fun i => w.cell? (a.add i)) with
          | none => rw [hr] at h; simp at h
          | some r =>
            rw [hr] at h
            simp at h
            subst h
            obtain ⟨h1, h2⟩ := ih r hr
            refine ⟨by simp [h1], fun j i' hj => ?_⟩
            cases j with
            | zero => simp at hj; subst hj; simpa using hc
            | succ j => simp at hj; simpa using h2 j i' hj
    obtain ⟨h1, h2⟩ := key _ _ h
    exact ⟨by simpa using h1, fun j hj => h2 j j (by simp [hj])⟩
  · cases h
theorem take_drop_append {α : Type} (l : List α) (m n : Nat) : (l.drop m).take n ++ (l.drop (m + n)) = l.drop m := by
  rw [← List.drop_drop]; exact List.take_append_drop n (l.drop m)

/-- WHAT IS READ STANDS FOR DATA OF ITS TYPE. -/
theorem reads [Glob P] {H : Type} {enc : TypeId × Value → H} {w : World} {base : Nat} {spare : Nat → Bool} {held : Bool} (hl : laidOutB P = true) :
    ∀ (k : Nat) (t : TypeId) (cs : List Value) (fuel : Nat) (x : DataW H × List MemPlace), t < P.types.size → shB P k t = true → DataW.trod enc P w base spare held fuel t cs = some x →
      ∃ ds, Sh P k t ds ∧ RepC w (noM fun b => b < w.heap.size) ds cs := by
  intro k
  induction k with
  | zero => intro t cs fuel x _ h; cases h
  | succ k ih =>
    intro t cs fuel x htl hs hr
    unfold shB at hs
    unfold Sh
    split at hs
    · rename_i hu
      obtain ⟨b, rfl, _⟩ := DataW.trod_bool hu hr
      exact ⟨_, ⟨b, rfl⟩, .one (.v _) rfl⟩
    · rename_i q hu
      obtain ⟨n, rfl, _, hw⟩ := DataW.trod_int hu hr
      exact ⟨_, ⟨n, rfl, hw⟩, .one (.v _) rfl⟩
    · rename_i hu
      obtain ⟨s, rfl, _, hw⟩ := DataW.trod_string hu hr
      exact ⟨_, ⟨s, rfl, hw⟩, .one (.v _) rfl⟩
    · rename_i e hu
      simp only [Bool.and_eq_true, decide_eq_true_eq] at hs
      obtain ⟨⟨hpos, hel⟩, hs⟩ := hs
      rcases DataW.trod_slice hu hr with ⟨rfl, _⟩ | ⟨a, len, cap, elems, rest, n, _, rfl, _, _, hlc, hcm, hlen, hrd, _, _⟩
      · exact ⟨_, ⟨[], rfl, fun r h => by cases h⟩, .one (.empty false none 0 (fun h => by cases h) (by simp [maxLen])) rfl⟩
      · -- each element
        have hrow : ∀ i, i < len → ∃ ds, Sh P k e ds ∧ ds.length = P.cellsOf e ∧ ∀ (j : Nat) d, ds[j]? = some d → ∃ v, w.cell? (a.add (i * P.cellsOf e + j)) = some v ∧ v.oneCell' = true ∧ Rep w (noM fun b => b < w.heap.size) d v := by
          intro i hi
          have h1 := hrd i hi
          have h2 : elems[i]? = some (elems[i]'(by omega)) := List.getElem?_eq_getElem _
          rw [h2] at h1
          rw [Option.bind_eq_some_iff] at h1
          obtain ⟨cs', hc, ht⟩ := h1
          obtain ⟨hcl, hcg⟩ := cells_get hc
          obtain ⟨ds, hsh, ⟨hrl, hrr⟩, ho⟩ := ih e cs' n _ hel hs ht
          refine ⟨ds, hsh, by rw [hrl, hcl], fun j d hd => ?_⟩
          have hj : j < cs'.length := by rw [← hrl]; exact (List.getElem?_eq_some_iff.1 hd).1
          have hcj := hcg j (by omega)
          rw [add_add'] at hcj
          have hg : cs'[j]? = some (cs'[j]'hj) := List.getElem?_eq_getElem _
          exact ⟨cs'[j]'hj, by rw [hcj, hg], ho _ (List.getElem_mem _), hrr j d _ hd hg⟩
        have hch : ∃ rows : List (List D), rows.length = len ∧ ∀ i r, rows[i]? = some r → Sh P k e r ∧ r.length = P.cellsOf e ∧ ∀ (j : Nat) d, r[j]? = some d → ∃ v, w.cell? (a.add (i * P.cellsOf e + j)) = some v ∧ v.oneCell' = true ∧ Rep w (noM fun b => b < w.heap.size) d v := by
          refine ⟨(List.range len).map fun i => if h : i < len then Classical.choose (hrow i h) else [], by simp, fun i r hr => ?_⟩
          rw [List.getElem?_map] at hr
          by_cases hi : i < len
          · rw [List.getElem?_range hi] at hr
            simp only [Option.map_some, Option.some.injEq] at hr
            rw [dif_pos hi] at hr
            subst hr
            exact Classical.choose_spec (hrow i hi)
          · rw [List.getElem?_eq_none (by simpa using hi)] at hr; cases hr
        obtain ⟨rows, hrl, hrr⟩ := hch
        refine ⟨_, ⟨rows, rfl, fun r h => by obtain ⟨i, hi⟩ := List.getElem?_of_mem h; exact (hrr i r hi).1⟩, .one ?_ rfl⟩
        cases hz : len with
        | zero =>
          subst hz
          have : rows = [] := List.eq_nil_of_length_eq_zero hrl
          subst this
          exact .empty false _ _ (fun h => by cases h) hcm
        | succ m =>
          rw [← hz, ← hrl]
          have hcv : ∀ i j, ∃ u, ∀ row d, rows[i]? = some row → row[j]? = some d → w.cell? (a.add (i * P.cellsOf e + j)) = some u ∧ u.oneCell' = true ∧ Rep w (noM fun b => b < w.heap.size) d u := by
            intro i j
            by_cases hh : ∃ row d, rows[i]? = some row ∧ row[j]? = some d
            · obtain ⟨row, d, q1, q2⟩ := hh
              obtain ⟨u, q3⟩ := (hrr i row q1).2.2 j d q2
              refine ⟨u, fun row' d' q1' q2' => ?_⟩
              rw [q1] at q1'; cases q1'
              rw [q2] at q2'; cases q2'
              exact q3
            · exact ⟨undef, fun row d q1 q2 => absurd ⟨row, d, q1, q2⟩ hh⟩
          have hcs : ∀ i j row d, rows[i]? = some row → row[j]? = some d → w.cell? (a.add (i * P.cellsOf e + j)) = some (Classical.choose (hcv i j)) ∧ (Classical.choose (hcv i j)).oneCell' = true ∧ Rep w (noM fun b => b < w.heap.size) d (Classical.choose (hcv i j)) := fun i j row d h1 h2 => Classical.choose_spec (hcv i j) row d h1 h2
          refine .list false rows a cap (P.cellsOf e) (fun i j => Classical.choose (hcv i j)) ?_ (by omega) (fun h => by cases h) hcm (fun r hr => ?_) (fun i j r d h1 h2 => ⟨(hcs i j r d h1 h2).1, (hcs i j r d h1 h2).2.1⟩) fun i j r d h1 h2 => (hcs i j r d h1 h2).2.2
          · show a.block < w.heap.size
            have h0 : rows[0]? = some (rows[0]'(by omega)) := List.getElem?_eq_getElem _
            obtain ⟨_, q2, q3⟩ := hrr 0 _ h0
            have h1 : (rows[0]'(by omega))[0]? = some ((rows[0]'(by omega))[0]'(by omega)) := List.getElem?_eq_getElem _
            obtain ⟨v, hv, _⟩ := q3 0 _ h1
            have := cells_block hv
            rwa [block_add] at this
          · obtain ⟨i, hi⟩ := List.getElem?_of_mem hr
            exact (hrr i r hi).2.1
    · rename_i fs hu
      obtain ⟨xs, n, _, _, hcl, hxl, hf⟩ := DataW.trod_struct hu hr
      obtain ⟨_, hsum, hoff⟩ := kid_struct hl htl hu
      simp only [List.all_eq_true, Bool.and_eq_true, decide_eq_true_eq] at hs
      have key : ∀ (fl : List Field) (i off : Nat), fs.toList.drop i = fl → off = ((fs.toList.take i).map fun f => P.cellsOf f.type).sum → ∃ ds, ShSt (Sh P k) fl ds ∧ RepC w (noM fun b => b < w.heap.size) ds (cs.drop off) := by
        intro fl
        induction fl with
        | nil =>
          intro i off hd ho
          have hil : fs.toList.length ≤ i := by
            have := congrArg List.length hd
            simp only [List.length_drop, List.length_nil] at this; omega
          have : off = cs.length := by rw [hcl, hsum, ho, List.take_of_length_le hil]
          rw [this, List.drop_length]
          exact ⟨[], rfl, .nil⟩
        | cons f fl ihf =>
          intro i off hd ho
          have hil : i < fs.toList.length := by
            have := congrArg List.length hd
            simp only [List.length_drop, List.length_cons] at this; omega
          have hfi : fs.toList[i]? = some f := by
            have : (fs.toList.drop i)[0]? = some f := by rw [hd]; rfl
            simpa using this
          have hofs := hoff i f hfi
          have hxi : xs[i]? = some (xs[i]'(by rw [hxl]; simpa using hil)) := List.getElem?_eq_getElem _
          have hrd := hf i f (by simpa using hfi)
          rw [hxi, hofs, ← ho] at hrd
          have hmem := List.mem_of_getElem? hfi
          obtain ⟨ds1, h1, h2⟩ := ih f.type _ n _ (hs f hmem).1 (hs f hmem).2 hrd
          have htk : fs.toList.take (i + 1) = fs.toList.take i ++ [f] := by rw [List.take_add_one, hfi]; rfl
          obtain ⟨ds2, h3, h4⟩ := ihf (i + 1) (off + P.cellsOf f.type) (by rw [← List.drop_drop, hd]; rfl) (by rw [htk, List.map_append, List.sum_append, ← ho]; simp)
          refine ⟨ds1 ++ ds2, ⟨ds1, ds2, rfl, h1, h3⟩, ?_⟩
          rw [← take_drop_append cs off (P.cellsOf f.type)]
          exact h2.append h4
      obtain ⟨ds, h1, h2⟩ := key fs.toList 0 0 rfl (by simp)
      exact ⟨ds, h1, by simpa using h2⟩
    · cases hs

/-! ### arguments -/
def shFuel : Nat := 12
def ShV (P : Program) [Glob P] (t : TypeId) (x : D) : Prop := match P.underlying t with
  | some (.struct _) => ∃ cs, x = .agg cs ∧ Sh P shFuel t cs
  | _ => Sh P shFuel t [x]
def ShArgs (P : Program) [Glob P] : List TypeId → List D → Prop
  | [], xs => xs = []
  | t :: ts, xs => ∃ x ys, xs = x :: ys ∧ ShV P t x ∧ ShArgs P ts ys
theorem readV [Glob P] {H : Type} {enc : TypeId × Value → H} {w : World} {spare : Nat → Bool} {held : Bool} {b0 : Nat} {t : TypeId} {v : Value} {d : DataW H} {ps : List MemPlace} (hl : laidOutB P = true) (htl : t < P.types.size) (hs : shB P shFuel t = true) (hv : Value.okWide P w .any b0 t v) (h : DataW.Trod enc P w 0 spare held t v d ps) :
    ∃ x, ShV P t x ∧ Rep w (noM fun b => b < w.heap.size) x v := by
  obtain ⟨fuel, h⟩ := h
  obtain ⟨ds, h1, h2⟩ := reads hl shFuel t v.cells.toList fuel _ htl hs h
  have one : v.cells = #[v] → ShV P t (ds.headD .junk) ∧ Rep w (noM fun b => b < w.heap.size) (ds.headD .junk) v ∨ (∃ fs, P.underlying t = some (.struct fs)) := by
    intro hc
    rw [hc] at h2
    have hlen : ds.length = 1 := h2.1.1
    match ds, hlen with
    | [x], _ =>
      by_cases hst : ∃ fs, P.underlying t = some (.struct fs)
      · exact .inr hst
      · refine .inl ⟨?_, h2.1.head⟩
        unfold ShV
        split
        · rename_i fs hu; exact absurd ⟨fs, hu⟩ hst
        · exact h1
  unfold shFuel shB at hs
  split at hs
  · rename_i hu
    obtain ⟨b, rfl⟩ := okWide_bool hu hv
    rcases one rfl with h | ⟨fs, h⟩
    · exact ⟨_, h⟩
    · rw [hu] at h; cases h
  · rename_i q hu
    obtain ⟨n, rfl⟩ := okWide_int hu hv
    rcases one rfl with h | ⟨fs, h⟩
    · exact ⟨_, h⟩
    · rw [hu] at h; cases h
  · rename_i hu
    obtain ⟨s, rfl⟩ := okWide_string hu hv
    rcases one rfl with h | ⟨fs, h⟩
    · exact ⟨_, h⟩
    · rw [hu] at h; cases h
  · rename_i e hu
    obtain ⟨a, len, cap, rfl⟩ := okWide_slice hu hv
    rcases one rfl with h | ⟨fs, h⟩
    · exact ⟨_, h⟩
    · rw [hu] at h; cases h
  · rename_i fs hu
    obtain ⟨cs, rfl, _⟩ := okWide_struct hu hv
    refine ⟨.agg ds, ?_, .mk_agg ?_⟩
    · unfold ShV; rw [hu]; exact ⟨ds, rfl, h1⟩
    · have : (Value.agg cs).cells = cs := rfl
      rw [this] at h2
      exact h2.1
  · cases hs
theorem readAll [Glob P] {H : Type} {enc : TypeId × Value → H} {w : World} {spare : Nat → Bool} {held : Bool} {b0 : Nat} (hl : laidOutB P = true) : ∀ (ts : List TypeId) (vs : List Value) (ds : List (DataW H)) (ps : List MemPlace), (∀ t ∈ ts, t < P.types.size ∧ shB P shFuel t = true) →
    (∀ (j : Nat) t v, ts[j]? = some t → vs[j]? = some v → Value.okWide P w .any b0 t v) → DataW.TrodAll enc P w 0 spare held ts vs ds ps → ∃ xs, ShArgs P ts xs ∧ Reps w (noM fun b => b < w.heap.size) xs vs
  | [], [], [], _, _, _, _ => ⟨[], rfl, .nil⟩
  | t :: ts, v :: vs, d :: ds, ps, ht, hv, ⟨p, q, h1, h2, _⟩ => by
    obtain ⟨x, hx1, hx2⟩ := readV hl (ht t (by simp)).1 (ht t (by simp)).2 (hv 0 t v rfl rfl) h1
    obtain ⟨xs, hy1, hy2⟩ := readAll hl ts vs ds q (fun t' h => ht t' (by simp [h])) (fun j t' v' e1 e2 => hv (j + 1) t' v' (by simpa using e1) (by simpa using e2)) h2
    exact ⟨x :: xs, ⟨x, xs, rfl, hx1, hy1⟩, .cons hx2 hy2⟩

/-! ### behind the call -/
theorem bel_kept {W W' : World} (hb : Bel W W') (may : MemPlace → Prop) : W.keptBut W' may := by
  refine ⟨hb.os, hb.output, fun i hi => ?_⟩
  rw [hb.block i hi]
  cases h : W.heap[i]? with
  | none => trivial
  | some o =>
    cases o <;> first
      | exact ⟨rfl, rfl, rfl, fun _ _ => rfl⟩
      | exact .inr ⟨rfl, rfl⟩
      | rfl
theorem trodAll_stays [Glob P] {H : Type} {enc : TypeId × Value → H} {W W' : World} (hl : laidOutB P = true) (hb : Bel W W') : ∀ (ts : List TypeId) (vs : List Value) (ds : List (DataW H)) (ps : List MemPlace), (∀ t ∈ ts, P.readableRec t = true ∧ t < P.types.size) →
    DataW.TrodAll enc P W 0 (fun _ => true) true ts vs ds ps → (∀ x ∈ ps, x.block < W.heap.size) → ∀ sp : Nat → Bool, (∀ x ∈ ps, sp x.block = true) → DataW.TrodAll enc P W' 0 sp true ts vs ds ps
  | [], [], [], _, _, h, _, _, _ => h
  | t :: ts, v :: vs, d :: ds, ps, ht, ⟨p, q, h1, h2, e⟩, hlt, sp, hsp => by
    subst e
    have hbe : Below W.heap.size W W' := ⟨hb.os, hb.tape, hb.output, hb.size, hb.block⟩
    exact ⟨p, q, WideElems.Trod_stays hl (ht t (by simp)).1 (ht t (by simp)).2 h1 (fun x hx => hbe.same (hlt x (List.mem_append_left _ hx))) (fun x hx => hsp x (List.mem_append_left _ hx)),
      trodAll_stays hl hb ts vs ds q (fun t' h => ht t' (by simp [h])) h2 (fun x hx => hlt x (List.mem_append_right _ hx)) sp (fun x hx => hsp x (List.mem_append_right _ hx)), rfl⟩
/-- A LAW THAT ANSWERS TRUE, and leaves memory alone. -/
theorem law_contract_g [Glob P] {H : Type} {enc : TypeId × Value → H} {f : FuncId} {fn : Func} {s : ChangeSpec} {tb : TypeId} {apart fresh handsOn again : Bool} (hl : laidOutB P = true) (hvars : s.vars = []) (hrt : fn.resultTypes = #[tb]) (hbool : P.underlying tb = some .bool)
    (hpar : (fn.params.toList.all fun t => P.readableRec t && decide (t < P.types.size) && shB P shFuel t) = true)
    (hfn : ∀ ds : List (DataW H), ds.length = fn.params.toList.length → s.fn H ds = { results := [.lit (.bool true)], args := ds })
    (hct : ∀ xs : List D, ShArgs P fn.params.toList xs → PureCt P f xs (.b true)) :
    ∀ (W : World) (base : Nat) (args : Array Value) (ds gs : List (DataW H)) (before : List MemPlace), Gr P (fun b => b < W.heap.size) W → (∀ (j : Nat) t v, fn.params[j]? = some t → args[j]? = some v → Value.okWide P W .any base t v) →
      DataW.Whole enc P fn.params.toList s.vars apart W args.toList ds gs before →
      Calls P f args W fun e W' => ∃ v, e = .returned v ∧ s.post enc P fn apart fresh handsOn again W args v W' := by
  intro W base args ds gs before hgr hval hW
  simp only [List.all_eq_true, Bool.and_eq_true, decide_eq_true_eq] at hpar
  have hW' := hW
  obtain ⟨p, q, hA, hV, hpq, hfz, hnd⟩ := hW
  rw [hvars] at hV
  obtain ⟨rfl, rfl⟩ : gs = [] ∧ q = [] := by
    cases gs with
    | nil => exact ⟨rfl, hV⟩
    | cons g gs => exact False.elim hV
  rw [List.append_nil] at hpq
  obtain ⟨xs, hx1, hx2⟩ := readAll hl _ _ _ _ (fun t ht => ⟨(hpar t ht).1.2, (hpar t ht).2⟩) (fun j t v h1 h2 => hval j t v (by simpa using h1) (by simpa using h2)) hA
  obtain ⟨_, _, hct⟩ := hct xs hx1
  have hlen : ∀ {ts : List TypeId} {vs : List Value} {ds : List (DataW H)} {ps : List MemPlace}, DataW.TrodAll enc P W 0 (fun _ => true) true ts vs ds ps → ds.length = ts.length := by
    intro ts
    induction ts with
    | nil => intro vs ds ps h; cases vs <;> cases ds <;> first | rfl | exact False.elim h
    | cons t ts ih =>
      intro vs ds ps h
      cases vs <;> cases ds <;> first | exact False.elim h | skip
      obtain ⟨_, _, _, h2, _⟩ := h
      simp [ih h2]
  have hres := hfn ds (hlen hA)
  have := callsIn_wide.1 (hct W (fun b => b < W.heap.size) _ (fun b h => h) hgr hx2)
  have ea : args.toList.toArray = args := by simp
  rw [ea] at this
  refine this.mono ?_
  rintro e W' ⟨v, rfl, hb, hv⟩
  rw [hv.v_inv]
  refine ⟨_, rfl, ?_⟩
  have hlt : ∀ x ∈ before, x.block < W.heap.size := fun x hx => hW'.lt x hx
  have hsp : ∀ sp : Nat → Bool, (∀ x ∈ before, sp x.block = true) → DataW.TrodAll enc P W' 0 sp true fn.params.toList args.toList ds before := by
    intro sp h
    rw [hpq] at h hlt ⊢
    exact trodAll_stays hl hb _ _ _ _ (fun t ht => (hpar t ht).1) hA hlt sp h
  have hfn' : s.fn H (ds ++ []) = { results := [.lit (.bool true)], args := ds } := by rw [List.append_nil]; exact hres
  have hrs : ∀ (b : Nat) (sp : Nat → Bool) (hd : Bool), DataW.TrodAll enc P W' b sp hd fn.resultTypes.toList ((Value.bool true).resultList fn.resultTypes.size) [.lit (.bool true)] [] := by
    intro b sp hd
    rw [hrt]
    exact trodAll_cons_mk (shut_bool hbool _) trodAll_mk0
  have hold : ∀ x ∈ before, (fun b => decide (b < W.heap.size)) x.block = true := fun x hx => by simpa using hlt x hx
  have hvs : ∀ sp : Nat → Bool, DataW.TrodVars enc P W' sp s.vars [] [] := fun sp => by rw [hvars]; exact rfl
  have hfz' : ∀ x ∈ before, ∀ b off, x = MemPlace.cell b off → W'.frozen? ⟨b, off, none⟩ = false := by
    intro x hx b off e
    subst e
    have hbl : b < W.heap.size := hlt _ hx
    have e2 : W'.frozen? ⟨b, off, none⟩ = W.frozen? ⟨b, off, none⟩ := World.frozen?_of_block (hb.block b hbl)
    rw [e2]
    exact hfz b off hx
  unfold ChangeSpec.post
  refine ⟨ds, [], before, [], before, [], hW', ?_, ?_, ?_, World.keptBut_mono (fun x hx => ⟨hx, .inr (.inl hx)⟩) (bel_kept hb (· ∈ before)), fun _ => ⟨?_, ?_⟩⟩
  · rw [hfn']; exact hrs _ _ _
  · rw [hfn']; exact hsp _ hold
  · rw [hfn']; exact hvs _
  · exact ok_one hrt rfl (okWide_bool_mk hbool _)
  · refine ⟨_, [], ([] ++ before) ++ [], ⟨[] ++ before, [], trodAll_append (hsp _ fun _ _ => rfl) (hrs _ _ _), hvs _, rfl, ?_, ?_⟩, ?_⟩
    · intro b off hx
      exact hfz' _ (by simpa using hx) b off rfl
    · intro ha
      simpa using hnd ha
    · intro x hx _
      simpa using hx
end Go.DL
/-
  THE D LAYER, 21: package-level variables that a row lists: what their cells hold. Conditions: none.
-/
set_option linter.unusedVariables false
set_option linter.unusedSimpArgs false
namespace Go.DL
open Go.RowKit Go.ChangeShapes Go.WideShapes
variable {P : Program}

def litV : Lit → Value
  | .bool b => .bool b
  | .int k n => .int k n
  | .string s => .string ⟨s.toArray⟩
  | _ => undef
/-- the cells that a datum stands for -/
def litCells {H : Type} : Nat → DataW H → List Value
  | 0, _ => []
  | k + 1, d => match d with
    | .lit l => [litV l]
    | .agg ds => ds.flatMap (litCells k)
    | _ => []
def litB (P : Program) : Nat → TypeId → Bool
  | 0, _ => false
  | k + 1, t => match P.underlying t with
    | some .bool | some (.int _) | some .string => true
    | some (.array _ e) => decide (e < P.types.size) && litB P k e
    | some (.struct fs) => fs.toList.all fun f => decide (f.type < P.types.size) && litB P k f.type
    | _ => false
theorem lits {H : Type} {enc : TypeId × Value → H} {w : World} {base : Nat} {spare : Nat → Bool} {held : Bool} (hl : laidOutB P = true) :
    ∀ (k : Nat) (t : TypeId) (cs : List Value) (fuel : Nat) (x : DataW H × List MemPlace), t < P.types.size → litB P k t = true → DataW.trod enc P w base spare held fuel t cs = some x → cs = litCells k x.1 := by
  intro k
  induction k with
  | zero => intro t cs fuel x _ h; cases h
  | succ k ih =>
    intro t cs fuel x htl hs hr
    unfold litB at hs
    split at hs
    · rename_i hu
      obtain ⟨b, rfl, rfl⟩ := DataW.trod_bool hu hr
      rfl
    · rename_i q hu
      obtain ⟨n, rfl, rfl, _⟩ := DataW.trod_int hu hr
      rfl
    · rename_i hu
      obtain ⟨s, rfl, rfl, _⟩ := DataW.trod_string hu hr
      show [Value.string s] = [Value.string ⟨s.data.toList.toArray⟩]
      simp
    · rename_i n e hu
      simp only [Bool.and_eq_true, decide_eq_true_eq] at hs
      obtain ⟨xs, m, _, rfl, hcl, hxl, hel⟩ := DataW.trod_array hu hr
      obtain ⟨_, hcn⟩ := kid_array hl htl hu
      have key : ∀ (j i : Nat), i + j = n → cs.drop (i * P.cellsOf e) = ((xs.drop i).map (·.1)).flatMap (litCells k) := by
        intro j
        induction j with
        | zero =>
          intro i hi
          have hi' : i = n := by omega
          subst hi'
          rw [← hcn, ← hcl, List.drop_length, ← hxl, List.drop_length]
          rfl
        | succ j ihj =>
          intro i hi
          have hlt : i < xs.length := by omega
          have h1 := hel i (by omega)
          rw [List.getElem?_eq_getElem hlt] at h1
          have h2 := ih e _ m _ hs.1 hs.2 h1
          have h3 := ihj (i + 1) (by omega)
          have e1 : (i + 1) * P.cellsOf e = i * P.cellsOf e + P.cellsOf e := by rw [Nat.succ_mul]
          rw [e1] at h3
          rw [List.drop_eq_getElem_cons hlt, List.map_cons, List.flatMap_cons, ← h3, ← h2]
          exact (take_drop_append cs _ _).symm
      have := key n 0 (by omega)
      simpa [litCells] using this
    · rename_i fs hu
      obtain ⟨xs, n, _, rfl, hcl, hxl, hf⟩ := DataW.trod_struct hu hr
      obtain ⟨_, hsum, hoff⟩ := kid_struct hl htl hu
      simp only [List.all_eq_true, Bool.and_eq_true, decide_eq_true_eq] at hs
      have hxl' : xs.length = fs.toList.length := by simpa using hxl
      have key : ∀ (j i : Nat), i + j = fs.toList.length → cs.drop ((fs.toList.take i).map fun f => P.cellsOf f.type).sum = ((xs.drop i).map (·.1)).flatMap (litCells k) := by
        intro j
        induction j with
        | zero =>
          intro i hi
          have hi' : i = fs.toList.length := by omega
          subst hi'
          rw [List.take_length, ← hsum, ← hcl, List.drop_length, ← hxl', List.drop_length]
          rfl
        | succ j ihj =>
          intro i hi
          have hlt : i < fs.toList.length := by omega
          have hltx : i < xs.length := by omega
          have hfi : fs.toList[i]? = some fs.toList[i] := List.getElem?_eq_getElem hlt
          have h1 := hf i fs.toList[i] (by simp)
          rw [hoff i _ hfi, List.getElem?_eq_getElem hltx] at h1
          have hm := hs _ (List.getElem_mem hlt)
          have h2 := ih _ _ n _ hm.1 hm.2 h1
          have h3 := ihj (i + 1) (by omega)
          have htk : fs.toList.take (i + 1) = fs.toList.take i ++ [fs.toList[i]] := by rw [List.take_add_one, hfi]; rfl
          rw [htk, List.map_append, List.sum_append] at h3
          simp only [List.map_cons, List.map_nil, List.sum_cons, List.sum_nil, Nat.add_zero] at h3
          rw [List.drop_eq_getElem_cons hltx, List.map_cons, List.flatMap_cons, ← h3, ← h2]
          exact (take_drop_append cs _ _).symm
      have := key fs.toList.length 0 (by omega)
      simpa [litCells] using this
    · cases hs
/-- WHAT A LISTED VARIABLE's CELLS HOLD: one variable. -/
theorem laid_one [Glob P] {nm : String} {d : DataW Unit} {W : World} {g : Nat} {t : TypeId} {k : Nat} {cells : List Value} (hl : laidOutB P = true) (hplain : ([(nm, d)].all fun x => x.2.handleName?.isNone) = true)
    (hg : P.globalNamed nm = some g) (ht : (P.globals[g]?).map (·.type) = some t) (htl : t < P.types.size) (hb : litB P k t = true) (hc : litCells k d = cells) (hgl : ∀ x cs, Glob.tab P x = some cs → x = g ∧ cs = cells) (hsz : 0 < cells.length)
    (h : laidMetH P [(nm, d)] W) : Gr P (fun b => b < W.heap.size) W := by
  rw [MakeChecks.laidMetH_plain _ _ _ hplain] at h
  obtain ⟨ps, ⟨g0, t0, cs, fuel, p, q, hg0, ht0, hv, hd, _, _⟩, _, _⟩ := h
  obtain rfl := Option.some.inj (hg.symm.trans hg0)
  obtain rfl := Option.some.inj (ht.symm.trans ht0)
  have hcs := lits hl k t _ _ _ htl hb hd
  rw [show litCells k (d, p).1 = cells from hc] at hcs
  intro x cs' hx
  obtain ⟨rfl, rfl⟩ := hgl x cs' hx
  have hcell := fun j => World.var?_cell hg0 hv j
  have hj : ∀ (j : Nat) v, cs'[j]? = some v → W.cell? ⟨x, j, none⟩ = some v := by
    intro j v hv'
    rw [hcell j]
    obtain ⟨l⟩ := cs
    simp only at hcs
    subst hcs
    simp [hv']
  refine ⟨?_, hj⟩
  have h0 : cs'[0]? = some (cs'[0]'hsz) := List.getElem?_eq_getElem hsz
  have := cells_block (hj 0 _ h0)
  exact this
end Go.DL
/-
  MADE BY A PROGRAM OF MINE: what the functions that leave memory alone give. Conditions: none.
-/
namespace Go.Proofs.YtipkfnkmdeopeaaGreatDoor
open Go.DL Go.Str Go.Rec Go.Zon
set_option linter.unusedVariables false
def In : Con where
  pure := fun k => [201, 192, 171, 125, 124, 87, 146, 110, 126, 194, 173, 133, 131, 148, 150, 195, 127, 174, 196, 149, 177, 147, 111, 151, 117, 175, 164, 130, 152, 129, 176, 153, 113, 89, 128, 91, 106, 183, 166, 134, 90, 88, 123, 112, 135, 92, 136, 95, 119, 74, 46, 22, 122, 121, 86, 96, 97, 99, 100, 101, 102, 98, 55, 45, 47, 49, 50, 51, 165, 132, 93, 52, 94, 53, 28, 25, 26, 118, 103, 43, 63, 58, 73, 67, 120, 72, 84, 85, 83, 36, 54, 35, 44, 61, 62, 70, 64, 104, 105, 71, 66, 69, 79, 137, 82, 145, 138, 144, 65, 142, 68, 81, 116, 141, 169, 78, 34, 41, 107, 75, 76, 37, 38, 39, 109, 108, 77, 40, 60, 59, 33, 57, 56, 31, 32, 11, 14, 17, 19, 48, 42, 27, 24, 12, 15, 18, 20, 16, 13, 23, 30, 29, 10, 21, 9, 3, 4, 5, 6, 7, 8].contains k
  pf := fun k xs => match k, xs with
    | 201, [x0, x1] => .i (lastIx (str1 x0) (int1 x1))
    | 192, [x0, x1] => .i (lastIx (str1 x0) (int1 x1))
    | 171, [x0] => .b (labelOk (str1 x0))
    | 125, [x0] => .b (labelOk (str1 x0))
    | 124, [x0] => .list false ((splitF (str1 x0)).map sR)
    | 87, [x0] => .b (nameOk (str1 x0))
    | 146, [x0] => .b (nameOk (str1 x0))
    | 110, [x0] => .b (nameOk (str1 x0))
    | 126, [x0] => .list false ((partsOf (str1 x0)).map sR)
    | 194, [x0, x1] => .i (Go.Lib.compareBytes (str1 x0) (str1 x1))
    | 173, [x0, x1] => .i (Go.Lib.compareBytes (str1 x0) (str1 x1))
    | 133, [x0, x1] => .i (nmOrd (str1 x0) (str1 x1))
    | 131, [x0, x1] => .tuple [.i (if nameOk (str1 x0) && nameOk (str1 x1) then nmCmp (str1 x0) (str1 x1) else 0), .i (if nameOk (str1 x0) && nameOk (str1 x1) then 0 else 11)]
    | 148, [x0, x1] => .tuple [.i (if nameOk (str1 x0) && nameOk (str1 x1) then nmCmp (str1 x0) (str1 x1) else 0), .i (if nameOk (str1 x0) && nameOk (str1 x1) then 0 else 11)]
    | 150, [x0, x1, x2] => .b (inR (int1 x0) (int1 x1) (int1 x2))
    | 195, [x0, x1, x2] => .b (inR (int1 x0) (int1 x1) (int1 x2))
    | 127, [x0, x1, x2] => .b (inR (int1 x0) (int1 x1) (int1 x2))
    | 174, [x0] => .b ((int1 x0) != (int1 x0))
    | 196, [x0] => .b ((str1 x0) != (str1 x0))
    | 149, [x0, x1] => .i (cmpI (int1 x0) (int1 x1))
    | 177, [x0, x1] => .i (cmpS (str1 x0) (str1 x1))
    | 147, [x0, x1] => .b (hasPre (str1 x0) (str1 x1))
    | 111, [x0, x1] => .b (hasPre (str1 x0) (str1 x1))
    | 151, [x0] => .b (wildB (str1 x0))
    | 117, [x0] => .b (wildB (str1 x0))
    | 175, [x0] => .b (freeB (str1 x0))
    | 164, [x0] => .b (freeB (str1 x0))
    | 130, [x0, x1] => .b (less (dat1 x0) (dat1 x1))
    | 152, [x0, x1] => .b (datOk (rule1 x0) (dat1 x1))
    | 129, [x0, x1] => .b (rDatOk (int1 x0) (dat1 x1))
    | 176, [x0] => .i (orFrom (zints1 x0) 0)
    | 153, [x0, x1] => .i (datC (dat1 x0) (dat1 x1))
    | 113, [x0] => .b (setOk (set1 x0))
    | 89, [x0] => .b (setOk (set1 x0))
    | 128, [x0] => .b (singleB (int1 x0))
    | 91, [x0, x1] => .i (rOrd (set1 x0) (set1 x1))
    | 106, [x0, x1] => .b (sameB (set1 x0) (set1 x1))
    | 183, [x0, x1] => .b (hasSuf (str1 x0) (str1 x1))
    | 166, [x0, x1] => .b (hasSuf (str1 x0) (str1 x1))
    | 134, [x0, x1] => .tuple [.b (underV (str1 x0) (str1 x1)), .i (if nameOk (str1 x0) && nameOk (str1 x1) then 0 else 11)]
    | 90, [x0, x1] => .b (inB (str1 x0) (str1 x1))
    | 88, [x0] => .b (wild1 (str1 x0))
    | 123, [x0, x1, x2, x3] => .i (qC ⟨(str1 x0), (int1 x1)⟩ ⟨(str1 x2), (int1 x3)⟩)
    | 112, [x0, x1] => .i (qC (qst1 x0) (qst1 x1))
    | 135, [x0, x1] => .b (fits (int1 x0) (bool1 x1))
    | 92, [x0, x1] => .b (fits (int1 x0) (bool1 x1))
    | 136, [x0, x1] => .b (sigsOk (sigs1 x0) (str1 x1))
    | 95, [x0, x1] => .b (sigsOk (sigs1 x0) (str1 x1))
    | 119, [x0] => .b (qOk (qst1 x0))
    | 74, [x0, x1] => .b (sameSgd (sgd1 x0) (sgd1 x1))
    | 46, [x0, x1] => .b (sameList (sgds1 x0) (sgds1 x1))
    | 22, [x0, x1] => .b (sameZ (zon1 x0) (zon1 x1))
    | 122, [x0, x1] => .i (qC (sgd1 x0).q (qst1 x1))
    | 121, [x0, x1, x2] => .tuple [.i (findIx (sgds1 x0) (qst1 x1)), .b (findOk (sgds1 x0) (qst1 x1))]
    | 86, [x0, x1] => .tuple [.i (findIx (zon1 x0).sets (qst1 x1)), .b (findOk (zon1 x0).sets (qst1 x1))]
    | 96, [x0] => .b (ordered (zon1 x0))
    | 97, [x0] => .b (apexHolds (zon1 x0))
    | 99, [x0] => .b (aliasB (lay1 x0))
    | 100, [x0] => .b (cutB (lay1 x0))
    | 101, [x0] => .b (glueB (lay1 x0))
    | 102, [x0] => .b (formB (lay1 x0))
    | 98, [x0] => .agg (layOf (zon1 x0)).d
    | 55, [x0] => .b (zoneOk (zon1 x0))
    | 45, [x0] => .tuple [.i (if zoneOk (zon1 x0) then serialOf (zon1 x0) else 0), .i (if zoneOk (zon1 x0) then 0 else 1)]
    | 47, [x0, x1] => .i (atF (zon1 x0).sets (qst1 x1))
    | 49, [x0] => .b (oneB (zon1 x0))
    | 50, [x0] => .b (twoB (zon1 x0))
    | 51, [x0] => .b (threeB (zon1 x0))
    | 165, [x0] => .list false ((cutsF (zon1 x0)).map sR)
    | 132, [x0] => .list false ((highF (zon1 x0)).map sR)
    | 93, [x0] => .list false ((behR (zon1 x0)).map sR)
    | 52, [x0] => .b (fourB (zon1 x0))
    | 94, [x0] => .list false ((ownF (zon1 x0)).map bR)
    | 53, [x0] => .b (fiveB (zon1 x0))
    | 28, [x0] => .b (refOk (zon1 x0))
    | 25, [x0] => .i (serialR (zon1 x0))
    | 26, [x0] => .b (fewZ (zon1 x0))
    | 118, [x0] => .b (serB (int1 x0))
    | 103, [x0] => .b (serB (int1 x0))
    | 43, [x0, x1] => .b (befB (int1 x0) (int1 x1))
    | 63, [x0, x1] => .b (befB (int1 x0) (int1 x1))
    | 58, [x0, x1] => .tuple [.b (lessF (int1 x0) (int1 x1)).1, .i (lessF (int1 x0) (int1 x1)).2]
    | 73, [x0] => .agg (sgd1 x0).q.d
    | 67, [x0] => .agg (sgd1 x0).q.d
    | 120, [x0, x1] => .i (qO (qst1 x0) (qst1 x1))
    | 72, [x0, x1] => .i (atF (sgds1 x0) (qst1 x1))
    | 84, [x0, x1] => .b (askB (qsts1 x0) (qst1 x1))
    | 85, [x0, x1] => .list false ((sortedF (sgds1 x0) (sgd1 x1)).map Sgd.d)
    | 83, [x0] => .b (dltOk (dlt1 x0))
    | 36, [x0, x1] => .b (sameD (dlt1 x0) (dlt1 x1))
    | 54, [x0] => .b (fewD (dlt1 x0))
    | 35, [x0, x1] => .tuple [.agg (diffR (zon1 x0) (zon1 x1)).1.d, .i (diffR (zon1 x0) (zon1 x1)).2]
    | 44, [x0, x1] => .tuple [.agg (applyR (zon1 x0) (dlt1 x1)).1.d, .i (applyR (zon1 x0) (dlt1 x1)).2]
    | 61, [x0] => .list false ((dats1 x0).map Dat.d)
    | 62, [x0] => .list false ((sigs1 x0).map RSig.d)
    | 70, [x0] => .agg (sgd1 x0).d
    | 64, [x0] => .fmap (kvP (mapP (sgds1 x0)))
    | 104, [x0, x1] => .b (eqDat (dats1 x0) (dats1 x1))
    | 105, [x0, x1] => .b (eqSig (sigs1 x0) (sigs1 x1))
    | 71, [x0, x1] => .b (sameX (sgd1 x0) (sgd1 x1))
    | 66, [x0, x1] => .tuple [.agg (sgd1 x0).q.d, .b (newB (mapc1 x1) (sgd1 x0).q)]
    | 69, [x0, x1] => .tuple [.agg (sgd1 x0).d, .b (diffS (pget (mapc1 x1) (sgd1 x0).q) (sgd1 x0))]
    | 79, [x0, x1] => .tuple [.agg (sgd1 x0).d, .b (newB (mapc1 x1) (sgd1 x0).q)]
    | 137, [x0, x1] => .tuple [.agg (sgd1 x0).d, .b (newB (mapc1 x1) (sgd1 x0).q)]
    | 82, [x0] => .tuple [.agg (sgd1 x0).d, .b true]
    | 145, [x0] => .tuple [.agg (sgd1 x0).d, .b true]
    | 138, [x0] => .agg (qst1 x0).d
    | 144, [x0, x1] => .tuple [.agg (qst1 x0).d, .b (newB (mapc1 x1) (qst1 x0))]
    | 65, [x0, x1] => .list false (((sgds1 x0).filterMap (d1S (capm1 x1))).map Qst.d)
    | 142, [x0, x1] => .list false (((qsts1 x0).filterMap (j3S (capm1 x1))).map Qst.d)
    | 68, [x0, x1] => .list false (((sgds1 x0).filterMap (semS (x1))).map Sgd.d)
    | 81, [x0] => .fn (.func 116) [] [.eptr [.fn (.func 67) [] []]]
    | 116, [x0, x1, x2] => .i (qC (sgd1 x0).q (sgd1 x1).q)
    | 141, [x0] => .fn (.func 169) [] [.eptr [.fn (.func 138) [] []]]
    | 169, [x0, x1, x2] => .i (qC (qst1 x0) (qst1 x1))
    | 78, [x0] => .b (dltOk (dlt1 x0))
    | 34, [x0, x1] => .tuple [.agg (diffP (zon1 x0) (zon1 x1)).1.d, .i (diffP (zon1 x0) (zon1 x1)).2]
    | 41, [x0, x1] => .tuple [.agg (applyP (zon1 x0) (dlt1 x1)).1.d, .i (applyP (zon1 x0) (dlt1 x1)).2]
    | 107, [x0, x1] => .tuple [.agg (joinP (dlt1 x0) (dlt1 x1)).1.d, .i (joinP (dlt1 x0) (dlt1 x1)).2]
    | 75, [x0] => .b (noZ (zon1 x0))
    | 76, [x0] => .b (dltOk (dlt1 x0))
    | 37, [x0] => .b (secOk (sec1 x0))
    | 38, [x0] => .b (offOk (off1 x0))
    | 39, [x0] => .tuple [.v (.string (bs (offdF (off1 x0)).1)), .b (offdF (off1 x0)).2]
    | 109, [x0, x1] => .b (sameSgd (sgd1 x0) (sgd1 x1))
    | 108, [x0, x1, x2] => .b (sameList (sgds1 x0) (sgds1 x1))
    | 77, [x0, x1] => .b (sameZ (zon1 x0) (zon1 x1))
    | 40, [x0, x1] => .i (fitsF (sec1 x0) (zon1 x1))
    | 60, [x0] => .agg (sgd1 x0).d
    | 59, [x0, x1] => .list false ((sgds1 x0).map Sgd.d)
    | 33, [x0] => .agg (zon1 x0).d
    | 57, [x0] => .i (serialOf (zon1 x0))
    | 56, [x0, x1] => .list false (((zons1 x0).map serialOf).map ziD)
    | 31, [x0] => .tuple [.list false ((versF (zons1 x0)).1.map ziD), .b (versF (zons1 x0)).2]
    | 32, [x0, x1] => .agg (offerF (zonsc1 x1) (int1 x0)).d
    | 11, [x0, x1, x2] => .tuple [.agg (serveF (zons1 x0) (bool1 x1) (int1 x2)).1.d, .i (serveF (zons1 x0) (bool1 x1) (int1 x2)).2]
    | 14, [x0, x1, x2] => .tuple [.agg (takeF (sec1 x0) (off1 x1) (int1 x2)).1.d, .i (takeF (sec1 x0) (off1 x1) (int1 x2)).2]
    | 17, [x0, x1, x2] => .tuple [.agg (pullF (sec1 x0) (zons1 x1) (int1 x2)).1.d, .i (pullF (sec1 x0) (zons1 x1) (int1 x2)).2]
    | 19, [x0, x1, x2] => .tuple [.b (expF (sec1 x0) (int1 x1) (int1 x2)).1, .i (expF (sec1 x0) (int1 x1) (int1 x2)).2]
    | 48, [x0] => .b (noZ (zon1 x0))
    | 42, [x0] => .b (offOk (off1 x0))
    | 27, [x0] => .b (secOk (sec1 x0))
    | 24, [x0] => .b (versOk (zons1 x0))
    | 12, [x0, x1, x2] => .tuple [.agg (serveF (zons1 x0) (bool1 x1) (int1 x2)).1.d, .i (serveF (zons1 x0) (bool1 x1) (int1 x2)).2]
    | 15, [x0, x1, x2] => .tuple [.agg (takeF (sec1 x0) (off1 x1) (int1 x2)).1.d, .i (takeF (sec1 x0) (off1 x1) (int1 x2)).2]
    | 18, [x0, x1, x2] => .tuple [.agg (pullF (sec1 x0) (zons1 x1) (int1 x2)).1.d, .i (pullF (sec1 x0) (zons1 x1) (int1 x2)).2]
    | 20, [x0, x1, x2] => .tuple [.b (expF (sec1 x0) (int1 x1) (int1 x2)).1, .i (expF (sec1 x0) (int1 x1) (int1 x2)).2]
    | 16, [x0, x1] => .b (sameC (sec1 x0) (sec1 x1))
    | 13, [x0, x1] => .b (sameO (off1 x0) (off1 x1))
    | 23, [x0] => .b (fewL (zons1 x0))
    | 30, [x0] => .b (fewO (off1 x0))
    | 29, [x0] => .agg (verZ (int1 x0)).d
    | 10, [x0, x1, x2] => .b (fewT (sec1 x0) (zons1 x1) (off1 x2))
    | 21, [x0, x1] => .b (knownB (sec1 x0) (zons1 x1))
    | 9, [] => .b true
    | 3, [x0, x1, x2, x3, x4, x5, x6] => .b true
    | 4, [x0, x1, x2, x3] => .b true
    | 5, [x0, x1, x2] => .b true
    | 6, [x0, x1] => .b true
    | 7, [x0, x1, x2] => .b true
    | 8, [x0, x1, x2, x3, x4] => .b true
    | _, _ => .junk
@[go_sem] theorem inp201 : In.pure 201 = true := rfl
@[go_sem] theorem inf201 {x0 x1 : D} : In.pf 201 [x0, x1] = .i (lastIx (str1 x0) (int1 x1)) := rfl
@[go_sem] theorem inp192 : In.pure 192 = true := rfl
@[go_sem] theorem inf192 {x0 x1 : D} : In.pf 192 [x0, x1] = .i (lastIx (str1 x0) (int1 x1)) := rfl
@[go_sem] theorem inp171 : In.pure 171 = true := rfl
@[go_sem] theorem inf171 {x0 : D} : In.pf 171 [x0] = .b (labelOk (str1 x0)) := rfl
@[go_sem] theorem inp125 : In.pure 125 = true := rfl
@[go_sem] theorem inf125 {x0 : D} : In.pf 125 [x0] = .b (labelOk (str1 x0)) := rfl
@[go_sem] theorem inp124 : In.pure 124 = true := rfl
@[go_sem] theorem inf124 {x0 : D} : In.pf 124 [x0] = .list false ((splitF (str1 x0)).map sR) := rfl
@[go_sem] theorem inp87 : In.pure 87 = true := rfl
@[go_sem] theorem inf87 {x0 : D} : In.pf 87 [x0] = .b (nameOk (str1 x0)) := rfl
@[go_sem] theorem inp146 : In.pure 146 = true := rfl
@[go_sem] theorem inf146 {x0 : D} : In.pf 146 [x0] = .b (nameOk (str1 x0)) := rfl
@[go_sem] theorem inp110 : In.pure 110 = true := rfl
@[go_sem] theorem inf110 {x0 : D} : In.pf 110 [x0] = .b (nameOk (str1 x0)) := rfl
@[go_sem] theorem inp126 : In.pure 126 = true := rfl
@[go_sem] theorem inf126 {x0 : D} : In.pf 126 [x0] = .list false ((partsOf (str1 x0)).map sR) := rfl
@[go_sem] theorem inp194 : In.pure 194 = true := rfl
@[go_sem] theorem inf194 {x0 x1 : D} : In.pf 194 [x0, x1] = .i (Go.Lib.compareBytes (str1 x0) (str1 x1)) := rfl
@[go_sem] theorem inp173 : In.pure 173 = true := rfl
@[go_sem] theorem inf173 {x0 x1 : D} : In.pf 173 [x0, x1] = .i (Go.Lib.compareBytes (str1 x0) (str1 x1)) := rfl
@[go_sem] theorem inp133 : In.pure 133 = true := rfl
@[go_sem] theorem inf133 {x0 x1 : D} : In.pf 133 [x0, x1] = .i (nmOrd (str1 x0) (str1 x1)) := rfl
@[go_sem] theorem inp131 : In.pure 131 = true := rfl
@[go_sem] theorem inf131 {x0 x1 : D} : In.pf 131 [x0, x1] = .tuple [.i (if nameOk (str1 x0) && nameOk (str1 x1) then nmCmp (str1 x0) (str1 x1) else 0), .i (if nameOk (str1 x0) && nameOk (str1 x1) then 0 else 11)] := rfl
@[go_sem] theorem inp148 : In.pure 148 = true := rfl
@[go_sem] theorem inf148 {x0 x1 : D} : In.pf 148 [x0, x1] = .tuple [.i (if nameOk (str1 x0) && nameOk (str1 x1) then nmCmp (str1 x0) (str1 x1) else 0), .i (if nameOk (str1 x0) && nameOk (str1 x1) then 0 else 11)] := rfl
@[go_sem] theorem inp150 : In.pure 150 = true := rfl
@[go_sem] theorem inf150 {x0 x1 x2 : D} : In.pf 150 [x0, x1, x2] = .b (inR (int1 x0) (int1 x1) (int1 x2)) := rfl
@[go_sem] theorem inp195 : In.pure 195 = true := rfl
@[go_sem] theorem inf195 {x0 x1 x2 : D} : In.pf 195 [x0, x1, x2] = .b (inR (int1 x0) (int1 x1) (int1 x2)) := rfl
@[go_sem] theorem inp127 : In.pure 127 = true := rfl
@[go_sem] theorem inf127 {x0 x1 x2 : D} : In.pf 127 [x0, x1, x2] = .b (inR (int1 x0) (int1 x1) (int1 x2)) := rfl
@[go_sem] theorem inp174 : In.pure 174 = true := rfl
@[go_sem] theorem inf174 {x0 : D} : In.pf 174 [x0] = .b ((int1 x0) != (int1 x0)) := rfl
@[go_sem] theorem inp196 : In.pure 196 = true := rfl
@[go_sem] theorem inf196 {x0 : D} : In.pf 196 [x0] = .b ((str1 x0) != (str1 x0)) := rfl
@[go_sem] theorem inp149 : In.pure 149 = true := rfl
@[go_sem] theorem inf149 {x0 x1 : D} : In.pf 149 [x0, x1] = .i (cmpI (int1 x0) (int1 x1)) := rfl
@[go_sem] theorem inp177 : In.pure 177 = true := rfl
@[go_sem] theorem inf177 {x0 x1 : D} : In.pf 177 [x0, x1] = .i (cmpS (str1 x0) (str1 x1)) := rfl
@[go_sem] theorem inp147 : In.pure 147 = true := rfl
@[go_sem] theorem inf147 {x0 x1 : D} : In.pf 147 [x0, x1] = .b (hasPre (str1 x0) (str1 x1)) := rfl
@[go_sem] theorem inp111 : In.pure 111 = true := rfl
@[go_sem] theorem inf111 {x0 x1 : D} : In.pf 111 [x0, x1] = .b (hasPre (str1 x0) (str1 x1)) := rfl
@[go_sem] theorem inp151 : In.pure 151 = true := rfl
@[go_sem] theorem inf151 {x0 : D} : In.pf 151 [x0] = .b (wildB (str1 x0)) := rfl
@[go_sem] theorem inp117 : In.pure 117 = true := rfl
@[go_sem] theorem inf117 {x0 : D} : In.pf 117 [x0] = .b (wildB (str1 x0)) := rfl
@[go_sem] theorem inp175 : In.pure 175 = true := rfl
@[go_sem] theorem inf175 {x0 : D} : In.pf 175 [x0] = .b (freeB (str1 x0)) := rfl
@[go_sem] theorem inp164 : In.pure 164 = true := rfl
@[go_sem] theorem inf164 {x0 : D} : In.pf 164 [x0] = .b (freeB (str1 x0)) := rfl
@[go_sem] theorem inp130 : In.pure 130 = true := rfl
@[go_sem] theorem inf130 {x0 x1 : D} : In.pf 130 [x0, x1] = .b (less (dat1 x0) (dat1 x1)) := rfl
@[go_sem] theorem inp152 : In.pure 152 = true := rfl
@[go_sem] theorem inf152 {x0 x1 : D} : In.pf 152 [x0, x1] = .b (datOk (rule1 x0) (dat1 x1)) := rfl
@[go_sem] theorem inp129 : In.pure 129 = true := rfl
@[go_sem] theorem inf129 {x0 x1 : D} : In.pf 129 [x0, x1] = .b (rDatOk (int1 x0) (dat1 x1)) := rfl
@[go_sem] theorem inp176 : In.pure 176 = true := rfl
@[go_sem] theorem inf176 {x0 : D} : In.pf 176 [x0] = .i (orFrom (zints1 x0) 0) := rfl
@[go_sem] theorem inp153 : In.pure 153 = true := rfl
@[go_sem] theorem inf153 {x0 x1 : D} : In.pf 153 [x0, x1] = .i (datC (dat1 x0) (dat1 x1)) := rfl
@[go_sem] theorem inp113 : In.pure 113 = true := rfl
@[go_sem] theorem inf113 {x0 : D} : In.pf 113 [x0] = .b (setOk (set1 x0)) := rfl
@[go_sem] theorem inp89 : In.pure 89 = true := rfl
@[go_sem] theorem inf89 {x0 : D} : In.pf 89 [x0] = .b (setOk (set1 x0)) := rfl
@[go_sem] theorem inp128 : In.pure 128 = true := rfl
@[go_sem] theorem inf128 {x0 : D} : In.pf 128 [x0] = .b (singleB (int1 x0)) := rfl
@[go_sem] theorem inp91 : In.pure 91 = true := rfl
@[go_sem] theorem inf91 {x0 x1 : D} : In.pf 91 [x0, x1] = .i (rOrd (set1 x0) (set1 x1)) := rfl
@[go_sem] theorem inp106 : In.pure 106 = true := rfl
@[go_sem] theorem inf106 {x0 x1 : D} : In.pf 106 [x0, x1] = .b (sameB (set1 x0) (set1 x1)) := rfl
@[go_sem] theorem inp183 : In.pure 183 = true := rfl
@[go_sem] theorem inf183 {x0 x1 : D} : In.pf 183 [x0, x1] = .b (hasSuf (str1 x0) (str1 x1)) := rfl
@[go_sem] theorem inp166 : In.pure 166 = true := rfl
@[go_sem] theorem inf166 {x0 x1 : D} : In.pf 166 [x0, x1] = .b (hasSuf (str1 x0) (str1 x1)) := rfl
@[go_sem] theorem inp134 : In.pure 134 = true := rfl
@[go_sem] theorem inf134 {x0 x1 : D} : In.pf 134 [x0, x1] = .tuple [.b (underV (str1 x0) (str1 x1)), .i (if nameOk (str1 x0) && nameOk (str1 x1) then 0 else 11)] := rfl
@[go_sem] theorem inp90 : In.pure 90 = true := rfl
@[go_sem] theorem inf90 {x0 x1 : D} : In.pf 90 [x0, x1] = .b (inB (str1 x0) (str1 x1)) := rfl
@[go_sem] theorem inp88 : In.pure 88 = true := rfl
@[go_sem] theorem inf88 {x0 : D} : In.pf 88 [x0] = .b (wild1 (str1 x0)) := rfl
@[go_sem] theorem inp123 : In.pure 123 = true := rfl
@[go_sem] theorem inf123 {x0 x1 x2 x3 : D} : In.pf 123 [x0, x1, x2, x3] = .i (qC ⟨(str1 x0), (int1 x1)⟩ ⟨(str1 x2), (int1 x3)⟩) := rfl
@[go_sem] theorem inp112 : In.pure 112 = true := rfl
@[go_sem] theorem inf112 {x0 x1 : D} : In.pf 112 [x0, x1] = .i (qC (qst1 x0) (qst1 x1)) := rfl
@[go_sem] theorem inp135 : In.pure 135 = true := rfl
@[go_sem] theorem inf135 {x0 x1 : D} : In.pf 135 [x0, x1] = .b (fits (int1 x0) (bool1 x1)) := rfl
@[go_sem] theorem inp92 : In.pure 92 = true := rfl
@[go_sem] theorem inf92 {x0 x1 : D} : In.pf 92 [x0, x1] = .b (fits (int1 x0) (bool1 x1)) := rfl
@[go_sem] theorem inp136 : In.pure 136 = true := rfl
@[go_sem] theorem inf136 {x0 x1 : D} : In.pf 136 [x0, x1] = .b (sigsOk (sigs1 x0) (str1 x1)) := rfl
@[go_sem] theorem inp95 : In.pure 95 = true := rfl
@[go_sem] theorem inf95 {x0 x1 : D} : In.pf 95 [x0, x1] = .b (sigsOk (sigs1 x0) (str1 x1)) := rfl
@[go_sem] theorem inp119 : In.pure 119 = true := rfl
@[go_sem] theorem inf119 {x0 : D} : In.pf 119 [x0] = .b (qOk (qst1 x0)) := rfl
@[go_sem] theorem inp74 : In.pure 74 = true := rfl
@[go_sem] theorem inf74 {x0 x1 : D} : In.pf 74 [x0, x1] = .b (sameSgd (sgd1 x0) (sgd1 x1)) := rfl
@[go_sem] theorem inp46 : In.pure 46 = true := rfl
@[go_sem] theorem inf46 {x0 x1 : D} : In.pf 46 [x0, x1] = .b (sameList (sgds1 x0) (sgds1 x1)) := rfl
@[go_sem] theorem inp22 : In.pure 22 = true := rfl
@[go_sem] theorem inf22 {x0 x1 : D} : In.pf 22 [x0, x1] = .b (sameZ (zon1 x0) (zon1 x1)) := rfl
@[go_sem] theorem inp122 : In.pure 122 = true := rfl
@[go_sem] theorem inf122 {x0 x1 : D} : In.pf 122 [x0, x1] = .i (qC (sgd1 x0).q (qst1 x1)) := rfl
@[go_sem] theorem inp121 : In.pure 121 = true := rfl
@[go_sem] theorem inf121 {x0 x1 x2 : D} : In.pf 121 [x0, x1, x2] = .tuple [.i (findIx (sgds1 x0) (qst1 x1)), .b (findOk (sgds1 x0) (qst1 x1))] := rfl
@[go_sem] theorem inp86 : In.pure 86 = true := rfl
@[go_sem] theorem inf86 {x0 x1 : D} : In.pf 86 [x0, x1] = .tuple [.i (findIx (zon1 x0).sets (qst1 x1)), .b (findOk (zon1 x0).sets (qst1 x1))] := rfl
@[go_sem] theorem inp96 : In.pure 96 = true := rfl
@[go_sem] theorem inf96 {x0 : D} : In.pf 96 [x0] = .b (ordered (zon1 x0)) := rfl
@[go_sem] theorem inp97 : In.pure 97 = true := rfl
@[go_sem] theorem inf97 {x0 : D} : In.pf 97 [x0] = .b (apexHolds (zon1 x0)) := rfl
@[go_sem] theorem inp99 : In.pure 99 = true := rfl
@[go_sem] theorem inf99 {x0 : D} : In.pf 99 [x0] = .b (aliasB (lay1 x0)) := rfl
@[go_sem] theorem inp100 : In.pure 100 = true := rfl
@[go_sem] theorem inf100 {x0 : D} : In.pf 100 [x0] = .b (cutB (lay1 x0)) := rfl
@[go_sem] theorem inp101 : In.pure 101 = true := rfl
@[go_sem] theorem inf101 {x0 : D} : In.pf 101 [x0] = .b (glueB (lay1 x0)) := rfl
@[go_sem] theorem inp102 : In.pure 102 = true := rfl
@[go_sem] theorem inf102 {x0 : D} : In.pf 102 [x0] = .b (formB (lay1 x0)) := rfl
@[go_sem] theorem inp98 : In.pure 98 = true := rfl
@[go_sem] theorem inf98 {x0 : D} : In.pf 98 [x0] = .agg (layOf (zon1 x0)).d := rfl
@[go_sem] theorem inp55 : In.pure 55 = true := rfl
@[go_sem] theorem inf55 {x0 : D} : In.pf 55 [x0] = .b (zoneOk (zon1 x0)) := rfl
@[go_sem] theorem inp45 : In.pure 45 = true := rfl
@[go_sem] theorem inf45 {x0 : D} : In.pf 45 [x0] = .tuple [.i (if zoneOk (zon1 x0) then serialOf (zon1 x0) else 0), .i (if zoneOk (zon1 x0) then 0 else 1)] := rfl
@[go_sem] theorem inp47 : In.pure 47 = true := rfl
@[go_sem] theorem inf47 {x0 x1 : D} : In.pf 47 [x0, x1] = .i (atF (zon1 x0).sets (qst1 x1)) := rfl
@[go_sem] theorem inp49 : In.pure 49 = true := rfl
@[go_sem] theorem inf49 {x0 : D} : In.pf 49 [x0] = .b (oneB (zon1 x0)) := rfl
@[go_sem] theorem inp50 : In.pure 50 = true := rfl
@[go_sem] theorem inf50 {x0 : D} : In.pf 50 [x0] = .b (twoB (zon1 x0)) := rfl
@[go_sem] theorem inp51 : In.pure 51 = true := rfl
@[go_sem] theorem inf51 {x0 : D} : In.pf 51 [x0] = .b (threeB (zon1 x0)) := rfl
@[go_sem] theorem inp165 : In.pure 165 = true := rfl
@[go_sem] theorem inf165 {x0 : D} : In.pf 165 [x0] = .list false ((cutsF (zon1 x0)).map sR) := rfl
@[go_sem] theorem inp132 : In.pure 132 = true := rfl
@[go_sem] theorem inf132 {x0 : D} : In.pf 132 [x0] = .list false ((highF (zon1 x0)).map sR) := rfl
@[go_sem] theorem inp93 : In.pure 93 = true := rfl
@[go_sem] theorem inf93 {x0 : D} : In.pf 93 [x0] = .list false ((behR (zon1 x0)).map sR) := rfl
@[go_sem] theorem inp52 : In.pure 52 = true := rfl
@[go_sem] theorem inf52 {x0 : D} : In.pf 52 [x0] = .b (fourB (zon1 x0)) := rfl
@[go_sem] theorem inp94 : In.pure 94 = true := rfl
@[go_sem] theorem inf94 {x0 : D} : In.pf 94 [x0] = .list false ((ownF (zon1 x0)).map bR) := rfl
@[go_sem] theorem inp53 : In.pure 53 = true := rfl
@[go_sem] theorem inf53 {x0 : D} : In.pf 53 [x0] = .b (fiveB (zon1 x0)) := rfl
@[go_sem] theorem inp28 : In.pure 28 = true := rfl
@[go_sem] theorem inf28 {x0 : D} : In.pf 28 [x0] = .b (refOk (zon1 x0)) := rfl
@[go_sem] theorem inp25 : In.pure 25 = true := rfl
@[go_sem] theorem inf25 {x0 : D} : In.pf 25 [x0] = .i (serialR (zon1 x0)) := rfl
@[go_sem] theorem inp26 : In.pure 26 = true := rfl
@[go_sem] theorem inf26 {x0 : D} : In.pf 26 [x0] = .b (fewZ (zon1 x0)) := rfl
@[go_sem] theorem inp118 : In.pure 118 = true := rfl
@[go_sem] theorem inf118 {x0 : D} : In.pf 118 [x0] = .b (serB (int1 x0)) := rfl
@[go_sem] theorem inp103 : In.pure 103 = true := rfl
@[go_sem] theorem inf103 {x0 : D} : In.pf 103 [x0] = .b (serB (int1 x0)) := rfl
@[go_sem] theorem inp43 : In.pure 43 = true := rfl
@[go_sem] theorem inf43 {x0 x1 : D} : In.pf 43 [x0, x1] = .b (befB (int1 x0) (int1 x1)) := rfl
@[go_sem] theorem inp63 : In.pure 63 = true := rfl
@[go_sem] theorem inf63 {x0 x1 : D} : In.pf 63 [x0, x1] = .b (befB (int1 x0) (int1 x1)) := rfl
@[go_sem] theorem inp58 : In.pure 58 = true := rfl
@[go_sem] theorem inf58 {x0 x1 : D} : In.pf 58 [x0, x1] = .tuple [.b (lessF (int1 x0) (int1 x1)).1, .i (lessF (int1 x0) (int1 x1)).2] := rfl
@[go_sem] theorem inp73 : In.pure 73 = true := rfl
@[go_sem] theorem inf73 {x0 : D} : In.pf 73 [x0] = .agg (sgd1 x0).q.d := rfl
@[go_sem] theorem inp67 : In.pure 67 = true := rfl
@[go_sem] theorem inf67 {x0 : D} : In.pf 67 [x0] = .agg (sgd1 x0).q.d := rfl
@[go_sem] theorem inp120 : In.pure 120 = true := rfl
@[go_sem] theorem inf120 {x0 x1 : D} : In.pf 120 [x0, x1] = .i (qO (qst1 x0) (qst1 x1)) := rfl
@[go_sem] theorem inp72 : In.pure 72 = true := rfl
@[go_sem] theorem inf72 {x0 x1 : D} : In.pf 72 [x0, x1] = .i (atF (sgds1 x0) (qst1 x1)) := rfl
@[go_sem] theorem inp84 : In.pure 84 = true := rfl
@[go_sem] theorem inf84 {x0 x1 : D} : In.pf 84 [x0, x1] = .b (askB (qsts1 x0) (qst1 x1)) := rfl
@[go_sem] theorem inp85 : In.pure 85 = true := rfl
@[go_sem] theorem inf85 {x0 x1 : D} : In.pf 85 [x0, x1] = .list false ((sortedF (sgds1 x0) (sgd1 x1)).map Sgd.d) := rfl
@[go_sem] theorem inp83 : In.pure 83 = true := rfl
@[go_sem] theorem inf83 {x0 : D} : In.pf 83 [x0] = .b (dltOk (dlt1 x0)) := rfl
@[go_sem] theorem inp36 : In.pure 36 = true := rfl
@[go_sem] theorem inf36 {x0 x1 : D} : In.pf 36 [x0, x1] = .b (sameD (dlt1 x0) (dlt1 x1)) := rfl
@[go_sem] theorem inp54 : In.pure 54 = true := rfl
@[go_sem] theorem inf54 {x0 : D} : In.pf 54 [x0] = .b (fewD (dlt1 x0)) := rfl
@[go_sem] theorem inp35 : In.pure 35 = true := rfl
@[go_sem] theorem inf35 {x0 x1 : D} : In.pf 35 [x0, x1] = .tuple [.agg (diffR (zon1 x0) (zon1 x1)).1.d, .i (diffR (zon1 x0) (zon1 x1)).2] := rfl
@[go_sem] theorem inp44 : In.pure 44 = true := rfl
@[go_sem] theorem inf44 {x0 x1 : D} : In.pf 44 [x0, x1] = .tuple [.agg (applyR (zon1 x0) (dlt1 x1)).1.d, .i (applyR (zon1 x0) (dlt1 x1)).2] := rfl
@[go_sem] theorem inp61 : In.pure 61 = true := rfl
@[go_sem] theorem inf61 {x0 : D} : In.pf 61 [x0] = .list false ((dats1 x0).map Dat.d) := rfl
@[go_sem] theorem inp62 : In.pure 62 = true := rfl
@[go_sem] theorem inf62 {x0 : D} : In.pf 62 [x0] = .list false ((sigs1 x0).map RSig.d) := rfl
@[go_sem] theorem inp70 : In.pure 70 = true := rfl
@[go_sem] theorem inf70 {x0 : D} : In.pf 70 [x0] = .agg (sgd1 x0).d := rfl
@[go_sem] theorem inp64 : In.pure 64 = true := rfl
@[go_sem] theorem inf64 {x0 : D} : In.pf 64 [x0] = .fmap (kvP (mapP (sgds1 x0))) := rfl
@[go_sem] theorem inp104 : In.pure 104 = true := rfl
@[go_sem] theorem inf104 {x0 x1 : D} : In.pf 104 [x0, x1] = .b (eqDat (dats1 x0) (dats1 x1)) := rfl
@[go_sem] theorem inp105 : In.pure 105 = true := rfl
@[go_sem] theorem inf105 {x0 x1 : D} : In.pf 105 [x0, x1] = .b (eqSig (sigs1 x0) (sigs1 x1)) := rfl
@[go_sem] theorem inp71 : In.pure 71 = true := rfl
@[go_sem] theorem inf71 {x0 x1 : D} : In.pf 71 [x0, x1] = .b (sameX (sgd1 x0) (sgd1 x1)) := rfl
@[go_sem] theorem inp66 : In.pure 66 = true := rfl
@[go_sem] theorem inf66 {x0 x1 : D} : In.pf 66 [x0, x1] = .tuple [.agg (sgd1 x0).q.d, .b (newB (mapc1 x1) (sgd1 x0).q)] := rfl
@[go_sem] theorem inp69 : In.pure 69 = true := rfl
@[go_sem] theorem inf69 {x0 x1 : D} : In.pf 69 [x0, x1] = .tuple [.agg (sgd1 x0).d, .b (diffS (pget (mapc1 x1) (sgd1 x0).q) (sgd1 x0))] := rfl
@[go_sem] theorem inp79 : In.pure 79 = true := rfl
@[go_sem] theorem inf79 {x0 x1 : D} : In.pf 79 [x0, x1] = .tuple [.agg (sgd1 x0).d, .b (newB (mapc1 x1) (sgd1 x0).q)] := rfl
@[go_sem] theorem inp137 : In.pure 137 = true := rfl
@[go_sem] theorem inf137 {x0 x1 : D} : In.pf 137 [x0, x1] = .tuple [.agg (sgd1 x0).d, .b (newB (mapc1 x1) (sgd1 x0).q)] := rfl
@[go_sem] theorem inp82 : In.pure 82 = true := rfl
@[go_sem] theorem inf82 {x0 : D} : In.pf 82 [x0] = .tuple [.agg (sgd1 x0).d, .b true] := rfl
@[go_sem] theorem inp145 : In.pure 145 = true := rfl
@[go_sem] theorem inf145 {x0 : D} : In.pf 145 [x0] = .tuple [.agg (sgd1 x0).d, .b true] := rfl
@[go_sem] theorem inp138 : In.pure 138 = true := rfl
@[go_sem] theorem inf138 {x0 : D} : In.pf 138 [x0] = .agg (qst1 x0).d := rfl
@[go_sem] theorem inp144 : In.pure 144 = true := rfl
@[go_sem] theorem inf144 {x0 x1 : D} : In.pf 144 [x0, x1] = .tuple [.agg (qst1 x0).d, .b (newB (mapc1 x1) (qst1 x0))] := rfl
@[go_sem] theorem inp65 : In.pure 65 = true := rfl
@[go_sem] theorem inf65 {x0 x1 : D} : In.pf 65 [x0, x1] = .list false (((sgds1 x0).filterMap (d1S (capm1 x1))).map Qst.d) := rfl
@[go_sem] theorem inp142 : In.pure 142 = true := rfl
@[go_sem] theorem inf142 {x0 x1 : D} : In.pf 142 [x0, x1] = .list false (((qsts1 x0).filterMap (j3S (capm1 x1))).map Qst.d) := rfl
@[go_sem] theorem inp68 : In.pure 68 = true := rfl
@[go_sem] theorem inf68 {x0 x1 : D} : In.pf 68 [x0, x1] = .list false (((sgds1 x0).filterMap (semS (x1))).map Sgd.d) := rfl
@[go_sem] theorem inp81 : In.pure 81 = true := rfl
@[go_sem] theorem inf81 {x0 : D} : In.pf 81 [x0] = .fn (.func 116) [] [.eptr [.fn (.func 67) [] []]] := rfl
@[go_sem] theorem inp116 : In.pure 116 = true := rfl
@[go_sem] theorem inf116 {x0 x1 x2 : D} : In.pf 116 [x0, x1, x2] = .i (qC (sgd1 x0).q (sgd1 x1).q) := rfl
@[go_sem] theorem inp141 : In.pure 141 = true := rfl
@[go_sem] theorem inf141 {x0 : D} : In.pf 141 [x0] = .fn (.func 169) [] [.eptr [.fn (.func 138) [] []]] := rfl
@[go_sem] theorem inp169 : In.pure 169 = true := rfl
@[go_sem] theorem inf169 {x0 x1 x2 : D} : In.pf 169 [x0, x1, x2] = .i (qC (qst1 x0) (qst1 x1)) := rfl
@[go_sem] theorem inp78 : In.pure 78 = true := rfl
@[go_sem] theorem inf78 {x0 : D} : In.pf 78 [x0] = .b (dltOk (dlt1 x0)) := rfl
@[go_sem] theorem inp34 : In.pure 34 = true := rfl
@[go_sem] theorem inf34 {x0 x1 : D} : In.pf 34 [x0, x1] = .tuple [.agg (diffP (zon1 x0) (zon1 x1)).1.d, .i (diffP (zon1 x0) (zon1 x1)).2] := rfl
@[go_sem] theorem inp41 : In.pure 41 = true := rfl
@[go_sem] theorem inf41 {x0 x1 : D} : In.pf 41 [x0, x1] = .tuple [.agg (applyP (zon1 x0) (dlt1 x1)).1.d, .i (applyP (zon1 x0) (dlt1 x1)).2] := rfl
@[go_sem] theorem inp107 : In.pure 107 = true := rfl
@[go_sem] theorem inf107 {x0 x1 : D} : In.pf 107 [x0, x1] = .tuple [.agg (joinP (dlt1 x0) (dlt1 x1)).1.d, .i (joinP (dlt1 x0) (dlt1 x1)).2] := rfl
@[go_sem] theorem inp75 : In.pure 75 = true := rfl
@[go_sem] theorem inf75 {x0 : D} : In.pf 75 [x0] = .b (noZ (zon1 x0)) := rfl
@[go_sem] theorem inp76 : In.pure 76 = true := rfl
@[go_sem] theorem inf76 {x0 : D} : In.pf 76 [x0] = .b (dltOk (dlt1 x0)) := rfl
@[go_sem] theorem inp37 : In.pure 37 = true := rfl
@[go_sem] theorem inf37 {x0 : D} : In.pf 37 [x0] = .b (secOk (sec1 x0)) := rfl
@[go_sem] theorem inp38 : In.pure 38 = true := rfl
@[go_sem] theorem inf38 {x0 : D} : In.pf 38 [x0] = .b (offOk (off1 x0)) := rfl
@[go_sem] theorem inp39 : In.pure 39 = true := rfl
@[go_sem] theorem inf39 {x0 : D} : In.pf 39 [x0] = .tuple [.v (.string (bs (offdF (off1 x0)).1)), .b (offdF (off1 x0)).2] := rfl
@[go_sem] theorem inp109 : In.pure 109 = true := rfl
@[go_sem] theorem inf109 {x0 x1 : D} : In.pf 109 [x0, x1] = .b (sameSgd (sgd1 x0) (sgd1 x1)) := rfl
@[go_sem] theorem inp108 : In.pure 108 = true := rfl
@[go_sem] theorem inf108 {x0 x1 x2 : D} : In.pf 108 [x0, x1, x2] = .b (sameList (sgds1 x0) (sgds1 x1)) := rfl
@[go_sem] theorem inp77 : In.pure 77 = true := rfl
@[go_sem] theorem inf77 {x0 x1 : D} : In.pf 77 [x0, x1] = .b (sameZ (zon1 x0) (zon1 x1)) := rfl
@[go_sem] theorem inp40 : In.pure 40 = true := rfl
@[go_sem] theorem inf40 {x0 x1 : D} : In.pf 40 [x0, x1] = .i (fitsF (sec1 x0) (zon1 x1)) := rfl
@[go_sem] theorem inp60 : In.pure 60 = true := rfl
@[go_sem] theorem inf60 {x0 : D} : In.pf 60 [x0] = .agg (sgd1 x0).d := rfl
@[go_sem] theorem inp59 : In.pure 59 = true := rfl
@[go_sem] theorem inf59 {x0 x1 : D} : In.pf 59 [x0, x1] = .list false ((sgds1 x0).map Sgd.d) := rfl
@[go_sem] theorem inp33 : In.pure 33 = true := rfl
@[go_sem] theorem inf33 {x0 : D} : In.pf 33 [x0] = .agg (zon1 x0).d := rfl
@[go_sem] theorem inp57 : In.pure 57 = true := rfl
@[go_sem] theorem inf57 {x0 : D} : In.pf 57 [x0] = .i (serialOf (zon1 x0)) := rfl
@[go_sem] theorem inp56 : In.pure 56 = true := rfl
@[go_sem] theorem inf56 {x0 x1 : D} : In.pf 56 [x0, x1] = .list false (((zons1 x0).map serialOf).map ziD) := rfl
@[go_sem] theorem inp31 : In.pure 31 = true := rfl
@[go_sem] theorem inf31 {x0 : D} : In.pf 31 [x0] = .tuple [.list false ((versF (zons1 x0)).1.map ziD), .b (versF (zons1 x0)).2] := rfl
@[go_sem] theorem inp32 : In.pure 32 = true := rfl
@[go_sem] theorem inf32 {x0 x1 : D} : In.pf 32 [x0, x1] = .agg (offerF (zonsc1 x1) (int1 x0)).d := rfl
@[go_sem] theorem inp11 : In.pure 11 = true := rfl
@[go_sem] theorem inf11 {x0 x1 x2 : D} : In.pf 11 [x0, x1, x2] = .tuple [.agg (serveF (zons1 x0) (bool1 x1) (int1 x2)).1.d, .i (serveF (zons1 x0) (bool1 x1) (int1 x2)).2] := rfl
@[go_sem] theorem inp14 : In.pure 14 = true := rfl
@[go_sem] theorem inf14 {x0 x1 x2 : D} : In.pf 14 [x0, x1, x2] = .tuple [.agg (takeF (sec1 x0) (off1 x1) (int1 x2)).1.d, .i (takeF (sec1 x0) (off1 x1) (int1 x2)).2] := rfl
@[go_sem] theorem inp17 : In.pure 17 = true := rfl
@[go_sem] theorem inf17 {x0 x1 x2 : D} : In.pf 17 [x0, x1, x2] = .tuple [.agg (pullF (sec1 x0) (zons1 x1) (int1 x2)).1.d, .i (pullF (sec1 x0) (zons1 x1) (int1 x2)).2] := rfl
@[go_sem] theorem inp19 : In.pure 19 = true := rfl
@[go_sem] theorem inf19 {x0 x1 x2 : D} : In.pf 19 [x0, x1, x2] = .tuple [.b (expF (sec1 x0) (int1 x1) (int1 x2)).1, .i (expF (sec1 x0) (int1 x1) (int1 x2)).2] := rfl
@[go_sem] theorem inp48 : In.pure 48 = true := rfl
@[go_sem] theorem inf48 {x0 : D} : In.pf 48 [x0] = .b (noZ (zon1 x0)) := rfl
@[go_sem] theorem inp42 : In.pure 42 = true := rfl
@[go_sem] theorem inf42 {x0 : D} : In.pf 42 [x0] = .b (offOk (off1 x0)) := rfl
@[go_sem] theorem inp27 : In.pure 27 = true := rfl
@[go_sem] theorem inf27 {x0 : D} : In.pf 27 [x0] = .b (secOk (sec1 x0)) := rfl
@[go_sem] theorem inp24 : In.pure 24 = true := rfl
@[go_sem] theorem inf24 {x0 : D} : In.pf 24 [x0] = .b (versOk (zons1 x0)) := rfl
@[go_sem] theorem inp12 : In.pure 12 = true := rfl
@[go_sem] theorem inf12 {x0 x1 x2 : D} : In.pf 12 [x0, x1, x2] = .tuple [.agg (serveF (zons1 x0) (bool1 x1) (int1 x2)).1.d, .i (serveF (zons1 x0) (bool1 x1) (int1 x2)).2] := rfl
@[go_sem] theorem inp15 : In.pure 15 = true := rfl
@[go_sem] theorem inf15 {x0 x1 x2 : D} : In.pf 15 [x0, x1, x2] = .tuple [.agg (takeF (sec1 x0) (off1 x1) (int1 x2)).1.d, .i (takeF (sec1 x0) (off1 x1) (int1 x2)).2] := rfl
@[go_sem] theorem inp18 : In.pure 18 = true := rfl
@[go_sem] theorem inf18 {x0 x1 x2 : D} : In.pf 18 [x0, x1, x2] = .tuple [.agg (pullF (sec1 x0) (zons1 x1) (int1 x2)).1.d, .i (pullF (sec1 x0) (zons1 x1) (int1 x2)).2] := rfl
@[go_sem] theorem inp20 : In.pure 20 = true := rfl
@[go_sem] theorem inf20 {x0 x1 x2 : D} : In.pf 20 [x0, x1, x2] = .tuple [.b (expF (sec1 x0) (int1 x1) (int1 x2)).1, .i (expF (sec1 x0) (int1 x1) (int1 x2)).2] := rfl
@[go_sem] theorem inp16 : In.pure 16 = true := rfl
@[go_sem] theorem inf16 {x0 x1 : D} : In.pf 16 [x0, x1] = .b (sameC (sec1 x0) (sec1 x1)) := rfl
@[go_sem] theorem inp13 : In.pure 13 = true := rfl
@[go_sem] theorem inf13 {x0 x1 : D} : In.pf 13 [x0, x1] = .b (sameO (off1 x0) (off1 x1)) := rfl
@[go_sem] theorem inp23 : In.pure 23 = true := rfl
@[go_sem] theorem inf23 {x0 : D} : In.pf 23 [x0] = .b (fewL (zons1 x0)) := rfl
@[go_sem] theorem inp30 : In.pure 30 = true := rfl
@[go_sem] theorem inf30 {x0 : D} : In.pf 30 [x0] = .b (fewO (off1 x0)) := rfl
@[go_sem] theorem inp29 : In.pure 29 = true := rfl
@[go_sem] theorem inf29 {x0 : D} : In.pf 29 [x0] = .agg (verZ (int1 x0)).d := rfl
@[go_sem] theorem inp10 : In.pure 10 = true := rfl
@[go_sem] theorem inf10 {x0 x1 x2 : D} : In.pf 10 [x0, x1, x2] = .b (fewT (sec1 x0) (zons1 x1) (off1 x2)) := rfl
@[go_sem] theorem inp21 : In.pure 21 = true := rfl
@[go_sem] theorem inf21 {x0 x1 : D} : In.pf 21 [x0, x1] = .b (knownB (sec1 x0) (zons1 x1)) := rfl
@[go_sem] theorem inp9 : In.pure 9 = true := rfl
@[go_sem] theorem inf9 : In.pf 9 [] = .b true := rfl
@[go_sem] theorem inp3 : In.pure 3 = true := rfl
@[go_sem] theorem inf3 {x0 x1 x2 x3 x4 x5 x6 : D} : In.pf 3 [x0, x1, x2, x3, x4, x5, x6] = .b true := rfl
@[go_sem] theorem inp4 : In.pure 4 = true := rfl
@[go_sem] theorem inf4 {x0 x1 x2 x3 : D} : In.pf 4 [x0, x1, x2, x3] = .b true := rfl
@[go_sem] theorem inp5 : In.pure 5 = true := rfl
@[go_sem] theorem inf5 {x0 x1 x2 : D} : In.pf 5 [x0, x1, x2] = .b true := rfl
@[go_sem] theorem inp6 : In.pure 6 = true := rfl
@[go_sem] theorem inf6 {x0 x1 : D} : In.pf 6 [x0, x1] = .b true := rfl
@[go_sem] theorem inp7 : In.pure 7 = true := rfl
@[go_sem] theorem inf7 {x0 x1 x2 : D} : In.pf 7 [x0, x1, x2] = .b true := rfl
@[go_sem] theorem inp8 : In.pure 8 = true := rfl
@[go_sem] theorem inf8 {x0 x1 x2 x3 x4 : D} : In.pf 8 [x0, x1, x2, x3, x4] = .b true := rfl
def InB : Con := { In with bs := true }
@[go_sem] theorem inB_p {k : FuncId} : InB.pure k = In.pure k := rfl
@[go_sem] theorem inB_f {k : FuncId} {xs : List D} : InB.pf k xs = In.pf k xs := rfl
@[go_sem] theorem inB_b : InB.bs = true := rfl
@[go_sem] theorem in_b : In.bs = false := rfl
@[go_sem] theorem in_c : In.cf = false := rfl
@[go_sem] theorem inB_c : InB.cf = false := rfl
def InF : Con := { In with cf := true }
@[go_sem] theorem inF_p {k : FuncId} : InF.pure k = In.pure k := rfl
@[go_sem] theorem inF_f {k : FuncId} {xs : List D} : InF.pf k xs = In.pf k xs := rfl
@[go_sem] theorem inF_b : InF.bs = false := rfl
@[go_sem] theorem inF_c : InF.cf = true := rfl
end Go.Proofs.YtipkfnkmdeopeaaGreatDoor
namespace Go.Proofs.YtipkfnkmdeopeaaGreatDoor
open Go.DL Go.Str
set_option maxRecDepth 10000
set_option linter.unusedSimpArgs false
set_option linter.unusedVariables false
theorem bo201 : hasBody Tryz.prog 201 = true := by kernel_rfl
theorem lastbyteS_ct (s : Str) (c : Int) (hs : s.length ≤ 9223372036854775806) : PureCt Tryz.prog 201 [.v (.string (bs s)), .v (.int .u8 c)] (.i (lastIx s c)) := by
  rw [lastIx]
  refine pure_of_dw Tryz.func201 rfl bo201 (by simp [go_sem, D.nr, nrs, nrr]) (by simp [Tryz.f201]) ?_
  unfold Tryz.f201
  simp only [init_eq]
  have ff := True.intro
  refine stp In ?_
  refine dw_seq ?_
  refine stp In ?_
  refine dw_block ?_
  refine lp (α := (Nat) × Nat) [0, 1] (fun ⟨k, nx⟩ => (k ≤ s.length) ∧ (lastFrom s c s.length = lastFrom s c k) ∧ True) (fun ⟨k, nx⟩ => k) (fun ⟨k, nx⟩ => [(5, .i ((k : Int) - 1))]) (fun ⟨k, nx⟩ => []) (fun ⟨k, nx⟩ => nx) (s.length, _) (hA := ⟨iv, rfl, trivial⟩) (round := ?_)
  rintro ⟨k, nx⟩ ⟨hk, hv, -⟩
  show DW _ _ _ _ { n := _, t := tab _, h := _, nx := _, e := _ }
  simp only [List.cons_append, List.nil_append]
  refine dw_seq ?_
  refine stp In ?_
  refine cd (fun c1 => ?_) (fun c1 => ?_) (hp := rfl) (hq := rfl)
  · skip
    have hk2 : 0 < k := by have h7 : (0:Int) ≤ (k:Int) - 1 := (by simpa using c1); omega
    have e1 : ((k:Int) - 1).toNat = k - 1 := by omega
    have ff := And.intro @e1 ff
    refine dw_skip ?_
    show DW _ _ _ _ _
    refine dw_seq ?_
    refine dw_block ?_
    refine stp In ?_
    refine cd (fun c2 => ?_) (fun c2 => ?_)
    · skip
      refine stp In ?_
      refine dw_ret ?_
      exact fin 0 (hr := by (try simp only [go_sem, ff]); all_goals (rw [hv, lastFrom_step hk2, if_pos c2]; congr 2; omega))
    · skip
      refine dw_skip ?_
      show DW _ _ _ _ _
      refine rgn In ?_
      show ∃ _, _
      exact rnd (k - 1, _) (h1 := ⟨iv, (by (try dsimp only); rw [hv, lastFrom_step hk2, if_neg c2]), trivial⟩)
  · skip
    have hk2 : k = 0 := by have h7 : ¬ (0:Int) ≤ (k:Int) - 1 := (by simpa using c1); omega
    refine dw_exit ?_
    show DW _ _ _ _ _
    refine stp In ?_
    refine dw_ret ?_
    exact fin 0 (hr := by (try simp only [go_sem, ff]); all_goals (rw [hv, hk2]; rfl))
theorem bo192 : hasBody Tryz.prog 192 = true := by kernel_rfl
theorem lastbyte_ct (s : Str) (c : Int) (hs : s.length ≤ 9223372036854775806) : PureCt Tryz.prog 192 [.v (.string (bs s)), .v (.int .u8 c)] (.i (lastIx s c)) := by
  refine pure_of_dw Tryz.func192 rfl bo192 (by simp [go_sem, D.nr, nrs, nrr]) (by simp [Tryz.f192]) ?_
  unfold Tryz.f192
  simp only [init_eq]
  have ff := True.intro
  refine stp In ?_
  refine stp In ?_ (hok := by (try simp only [go_sem, ff]); all_goals (exact lastbyteS_ct _ _ hs))
  refine dw_ret ?_
  exact fin 0 (hr := by (try simp only [go_sem, ff]); all_goals (rfl))
theorem bo171 : hasBody Tryz.prog 171 = true := by kernel_rfl
theorem islabel_ct (s : Str) : PureCt Tryz.prog 171 [.v (.string (bs s))] (.b (labelOk s)) := by
  rw [labelOk_P]
  refine pure_of_dw Tryz.func171 rfl bo171 (by simp [go_sem, D.nr, nrs, nrr]) (by simp [Tryz.f171]) ?_
  unfold Tryz.f171
  simp only [init_eq]
  have ff := True.intro
  have e1 : ((s.length:Int) - 1).toNat = s.length - 1 := by omega
  have ff := And.intro @e1 ff
  refine stp In ?_
  refine dw_seq ?_
  refine stp In ?_
  refine cd (fun c1 => ?_) (fun c1 => ?_)
  · skip
    refine stp In ?_
    refine dw_ret ?_
    exact fin 0 (hr := by (try simp only [go_sem, ff]); all_goals ((repeat' split) <;> first | rfl | (exfalso; omega)))
  · skip
    refine dw_skip ?_
    show DW _ _ _ _ _
    refine dw_seq ?_
    refine stp In ?_
    refine dw_block ?_
    refine lp (α := (Nat) × Nat) [0, 27] (fun ⟨k, nx⟩ => (k ≤ s.length) ∧ (allN s.length (okIn s) 0 = allN s.length (okIn s) k) ∧ True) (fun ⟨k, nx⟩ => s.length - k) (fun ⟨k, nx⟩ => [(28, .i k)]) (fun ⟨k, nx⟩ => []) (fun ⟨k, nx⟩ => nx) (0, _) (hA := ⟨iv, rfl, trivial⟩) (round := ?_)
    rintro ⟨k, nx⟩ ⟨hk, hv, -⟩
    show DW _ _ _ _ { n := _, t := tab _, h := _, nx := _, e := _ }
    simp only [List.cons_append, List.nil_append]
    refine stp In ?_
    refine dw_seq ?_
    refine cd (fun c2 => ?_) (fun c2 => ?_) (hp := rfl)
    · skip
      have hk2 : k < s.length := by simpa using c2
      refine dw_skip ?_
      show DW _ _ _ _ _
      refine dw_seq ?_
      refine dw_block ?_
      refine stp In ?_
      refine stp In ?_
      refine stp In ?_
      refine cd (fun c3 => ?_) (fun c3 => ?_)
      · skip
        refine stp In ?_
        refine dw_ret ?_
        exact fin 0 (hr := by (try simp only [go_sem, ff]); all_goals (have h8 : okIn s k = false := (by simp only [okIn, alnum, Bool.or_eq_false_iff, Bool.and_eq_false_iff, decide_eq_false_iff_not]; omega); rw [hv, allN_eq, if_pos hk2, h8]; (repeat' split) <;> rfl))
      · skip
        refine dw_skip ?_
        show DW _ _ _ _ _
        refine rgn In ?_
        show ∃ _, _
        exact rnd (k + 1, _) (h1 := ⟨iv, (by (try dsimp only); have h8 : okIn s k = true := (by simp only [okIn, alnum, Bool.or_eq_true, Bool.and_eq_true, decide_eq_true_eq]; omega); rw [hv, allN_eq, if_pos hk2, h8]; rfl), trivial⟩)
    · skip
      refine dw_exit ?_
      show DW _ _ _ _ _
      refine stp In ?_
      refine dw_ret ?_
      exact fin 0 (hr := by (try simp only [go_sem, ff]); all_goals (rw [hv, allN_eq, if_neg (by omega), if_neg (by omega), if_neg (by omega), if_neg (by omega), if_neg (by omega)]))
theorem bo125 : hasBody Tryz.prog 125 = true := by kernel_rfl
theorem rlabel_ct (s : Str) (hs : s.length ≤ 9223372036854775806) : PureCt Tryz.prog 125 [.v (.string (bs s))] (.b (labelOk s)) := by
  rw [labelOk]
  refine pure_of_dw Tryz.func125 rfl bo125 (by simp [go_sem, D.nr, nrs, nrr]) (by simp [Tryz.f125]) ?_
  unfold Tryz.f125
  simp only [init_eq]
  have ff := True.intro
  refine stp In ?_
  refine dw_seq ?_
  refine stp In ?_
  refine dw_block ?_
  refine lp (α := (Nat) × Nat) [0] (fun ⟨k, nx⟩ => (k ≤ s.length) ∧ (allN s.length (okAt s) 0 = allN s.length (okAt s) k) ∧ True) (fun ⟨k, nx⟩ => s.length - k) (fun ⟨k, nx⟩ => [(3, .i k)]) (fun ⟨k, nx⟩ => []) (fun ⟨k, nx⟩ => nx) (0, _) (hA := ⟨iv, rfl, trivial⟩) (round := ?_)
  rintro ⟨k, nx⟩ ⟨hk, hv, -⟩
  show DW _ _ _ _ { n := _, t := tab _, h := _, nx := _, e := _ }
  simp only [List.cons_append, List.nil_append]
  refine dw_seq ?_
  refine stp In ?_
  refine cd (fun c1 => ?_) (fun c1 => ?_) (hp := rfl)
  · skip
    have hk2 : k < s.length := by simpa using c1
    refine dw_skip ?_
    show DW _ _ _ _ _
    refine dw_seq ?_
    refine dw_block ?_
    refine stp In ?_
    refine stp In ?_
    refine stp In ?_
    refine cd (fun c2 => ?_) (fun c2 => ?_)
    · skip
      refine stp In ?_
      refine dw_ret ?_
      exact fin 0 (hr := by (try simp only [go_sem, ff]); all_goals (have h8 : okAt s k = false := (by simp only [okAt, alnum, Bool.or_eq_false_iff, Bool.and_eq_false_iff, decide_eq_false_iff_not]; omega); rw [hv, allN_eq, if_pos hk2, h8]; rfl))
    · skip
      refine dw_skip ?_
      show DW _ _ _ _ _
      refine rgn In ?_
      show ∃ _, _
      exact rnd (k + 1, _) (h1 := ⟨iv, (by (try dsimp only); have h8 : okAt s k = true := (by simp only [okAt, alnum, Bool.or_eq_true, Bool.and_eq_true, decide_eq_true_eq]; omega); rw [hv, allN_eq, if_pos hk2, h8]; rfl), trivial⟩)
  · skip
    refine dw_exit ?_
    show DW _ _ _ _ _
    refine stp In ?_
    refine dw_ret ?_
    exact fin 0 (hr := by (try simp only [go_sem, ff]); all_goals (rw [hv, allN_eq, if_neg (by omega)]; congr 2; rw [Bool.eq_iff_iff]; simp only [Bool.and_eq_true, decide_eq_true_eq, Bool.true_and]; omega))
theorem bo124 : hasBody Tryz.prog 124 = true := by kernel_rfl
theorem rsplit_ct (s : Str) (hs : s.length ≤ 1000) : PureCt Tryz.prog 124 [.v (.string (bs s))] (.list false ((splitF s).map sR)) := by
  rw [splitF]
  refine pure_of_dw Tryz.func124 rfl bo124 (by simp [go_sem, D.nr, nrs, nrr]) (by simp [Tryz.f124]) ?_
  unfold Tryz.f124
  simp only [init_eq]
  have ff := True.intro
  refine stp In ?_
  refine stp InB ?_
  refine dw_seq ?_
  refine stp In ?_
  refine dw_block ?_
  refine lp (α := (Nat) × (List Str) × (Nat) × Nat) [0] (fun ⟨k, out, r, nx⟩ => (k ≤ s.length) ∧ (1 ≤ out.length) ∧ (out.length ≤ k + 1) ∧ (∀ x ∈ out, x.length ≤ k) ∧ (splitFrom s 0 [[]] = splitFrom s k out) ∧ (r < nx) ∧ True) (fun ⟨k, out, r, nx⟩ => s.length - k) (fun ⟨k, out, r, nx⟩ => [(3, .mrow r 0 out.length), (4, .i k)]) (fun ⟨k, out, r, nx⟩ => [(r, ⟨9, out.map sR⟩)]) (fun ⟨k, out, r, nx⟩ => nx) (0, [[]], 1, _) (hA := ⟨iv, (by first | (simp) | (dsimp only; simp)), (by first | (simp) | (dsimp only; simp)), (by first | (simp) | (dsimp only; simp)), rfl, iv, trivial⟩) (round := ?_)
  rintro ⟨k, out, r, nx⟩ ⟨hk, ho1, ho, hl, hv, hr, -⟩
  show DW _ _ _ _ { n := _, t := tab _, h := _, nx := _, e := _ }
  simp only [List.cons_append, List.nil_append]
  have ff := And.intro @hr ff
  refine dw_seq ?_
  refine stp In ?_
  refine cd (fun c1 => ?_) (fun c1 => ?_) (hp := rfl)
  · skip
    have hk2 : k < s.length := by simpa using c1
    have hk3 : out.length - 1 < out.length := by omega
    have e1 : ((out.length : Int) - 1).toNat = out.length - 1 := by omega
    have e5 : ((k : Int) + 1).toNat = k + 1 := by omega
    have hl3 : out[out.length - 1]!.length ≤ k := hl _ (by rw [getElem!_pos out _ hk3]; exact List.getElem_mem _)
    have ff := And.intro @e1 (And.intro @e5 (And.intro (getD_sR hk3) (And.intro (one_cut hk2) ff)))
    refine dw_skip ?_
    show DW _ _ _ _ _
    refine dw_seq ?_
    refine dw_block ?_
    refine stp In ?_
    refine cd (fun c2 => ?_) (fun c2 => ?_)
    · skip
      have e2 := splitStep_t (out := out) (c := s.getD k 0) c2
      refine rgn In ?_
      show DW _ _ _ _ _
      refine rgn In ?_
      show ∃ _, _
      exact rnd (k + 1, out ++ [[]], (nx + 10), _) (h1 := ⟨iv, (by first | (simp) | (dsimp only; simp)), (by first | (simp; omega) | (dsimp only; simp; omega)), (by (try dsimp only); intro x hx; rcases List.mem_append.1 hx with h | h; exact Nat.le_succ_of_le (hl x h); simp at h; subst h; exact Nat.zero_le _), (by (try dsimp only); rw [hv, splitFrom_eq, if_pos hk2, e2]), iv, trivial⟩) (h3 := by (try simp only [go_sem, ff]); all_goals (first | done | (simp [sR]; done) | (simp [sR]; omega) | ((repeat' (with_reducible apply And.intro)) <;> first | (left; simp [sR]; done) | (right; simp [go_sem, sR]; done)))) (h4 := by (try simp only [go_sem, ff]); all_goals (first | done | (simp [sR]; done) | (simp [sR]; omega) | ((repeat' (with_reducible apply And.intro)) <;> first | (left; simp [sR]; done) | (right; simp [go_sem, sR]; done)))) (h5 := by (try simp only [go_sem, ff]); all_goals (first | done | (simp [sR]; done) | (simp [sR]; omega) | ((repeat' (with_reducible apply And.intro)) <;> first | (left; simp [sR]; done) | (right; simp [go_sem, sR]; done))))
    · skip
      have e2 := splitStep_f (out := out) (c := s.getD k 0) c2
      refine rgn In ?_
      show DW _ _ _ _ _
      refine rgn In ?_
      show ∃ _, _
      exact rnd (k + 1, out.set (out.length - 1) (out[out.length - 1]! ++ [s.getD k 0]), r, _) (h1 := ⟨iv, (by first | (simp; omega) | (dsimp only; simp; omega)), (by first | (simp; omega) | (dsimp only; simp; omega)), (by (try dsimp only); intro x hx; rcases List.mem_or_eq_of_mem_set hx with h | h; exact Nat.le_succ_of_le (hl x h); subst h; rw [List.length_append]; exact Nat.succ_le_succ hl3), (by (try dsimp only); rw [hv, splitFrom_eq, if_pos hk2, e2]), iv, trivial⟩) (h3 := by (try simp only [go_sem, ff]); all_goals (first | done | (simp [sR]; done) | (simp [sR]; omega) | ((repeat' (with_reducible apply And.intro)) <;> first | (left; simp [sR]; done) | (right; simp [go_sem, sR]; done)))) (h4 := by (try simp only [go_sem, ff]); all_goals (first | done | (simp [sR]; done) | (simp [sR]; omega) | ((repeat' (with_reducible apply And.intro)) <;> first | (left; simp [sR]; done) | (right; simp [go_sem, sR]; done)))) (h5 := by (try simp only [go_sem, ff]); all_goals (first | done | (simp [sR]; done) | (simp [sR]; omega) | ((repeat' (with_reducible apply And.intro)) <;> first | (left; simp [sR]; done) | (right; simp [go_sem, sR]; done))))
  · skip
    refine dw_exit ?_
    show DW _ _ _ _ _
    refine stp In ?_
    refine dw_ret ?_
    exact fin 1 (hr := by (try simp only [go_sem, ff]); all_goals (rw [hv, splitFrom_eq, if_neg (by omega)]))
theorem bo87 : hasBody Tryz.prog 87 = true := by kernel_rfl
theorem rnvalid_ct (s : Str) : PureCt Tryz.prog 87 [.v (.string (bs s))] (.b (nameOk s)) := by
  rw [nameOk]
  refine pure_of_dw Tryz.func87 rfl bo87 (by simp [go_sem, D.nr, nrs, nrr]) (by simp [Tryz.f87]) ?_
  unfold Tryz.f87
  simp only [init_eq]
  have ff := True.intro
  refine stp In ?_
  refine dw_seq ?_
  refine stp In ?_
  refine cd (fun c1 => ?_) (fun c1 => ?_)
  · skip
    refine stp In ?_
    refine dw_ret ?_
    exact fin 0 (hr := by (try simp only [go_sem, ff]); all_goals (rw [if_pos c1]))
  · skip
    refine dw_skip ?_
    show DW _ _ _ _ _
    refine dw_seq ?_
    refine stp In ?_
    refine cd (fun c2 => ?_) (fun c2 => ?_)
    · skip
      refine stp In ?_
      refine dw_ret ?_
      exact fin 0 (hr := by (try simp only [go_sem, ff]); all_goals (rw [if_neg c1, if_pos (by omega)]))
    · skip
      refine dw_skip ?_
      show DW _ _ _ _ _
      refine stp In ?_ (hok := by (try simp only [go_sem, ff]); all_goals (exact rsplit_ct _ (by omega)))
      refine dw_seq ?_
      refine stp In ?_
      refine dw_block ?_
      refine lp (α := (Nat) × Nat) [3] (fun ⟨k, nx⟩ => (k ≤ (splitF s).length) ∧ (allN (splitF s).length (partOk (splitF s)) 0 = allN (splitF s).length (partOk (splitF s)) k) ∧ True) (fun ⟨k, nx⟩ => (splitF s).length - k) (fun ⟨k, nx⟩ => [(4, .i k)]) (fun ⟨k, nx⟩ => []) (fun ⟨k, nx⟩ => nx) (0, _) (hA := ⟨iv, rfl, trivial⟩) (round := ?_)
      rintro ⟨k, nx⟩ ⟨hk, hv, -⟩
      show DW _ _ _ _ { n := _, t := tab _, h := _, nx := _, e := _ }
      simp only [List.cons_append, List.nil_append]
      have hsl := splitF_at s k
      have hsn := (splitF_len s).2
      refine dw_seq ?_
      refine stp In ?_
      refine cd (fun c3 => ?_) (fun c3 => ?_) (hp := rfl)
      · skip
        have hk2 : k < (splitF s).length := by simpa using c3
        have ff := And.intro (getD_sR hk2) ff
        refine dw_skip ?_
        show DW _ _ _ _ _
        refine dw_seq ?_
        refine dw_block ?_
        refine stp In ?_ (hok := by (try simp only [go_sem, ff]); all_goals (first | done | exact rlabel_ct _ (by omega) | ((repeat' (with_reducible apply And.intro)) <;> first | omega | exact rlabel_ct _ (by omega))))
        refine stp In ?_ (hok := by (try simp only [go_sem, ff]); all_goals (refine ⟨fun _ => ⟨by omega, by omega⟩, fun h1 _ => ⟨h1, fun h3 => by rw [h1, h3]; rfl⟩⟩))
        refine cd (fun c4 => ?_) (fun c4 => ?_)
        · skip
          refine stp In ?_
          refine dw_ret ?_
          exact fin 0 (hr := by (try simp only [go_sem, ff]); all_goals (rw [if_neg c1, if_neg (by omega), hv, allN_eq, if_pos hk2, partOk_f c4.1 (by first | exact c4.2 | (rcases c4.2 with h | h; exact .inl (by omega); exact .inr h))]; rfl))
        · skip
          refine dw_skip ?_
          show DW _ _ _ _ _
          refine rgn In ?_
          show ∃ _, _
          exact rnd (k + 1, _) (h1 := ⟨iv, (by (try dsimp only); rw [hv, allN_eq, if_pos hk2, partOk_t (by first | exact c4 | (rcases c4 with h | h; exact .inl h; exact .inr ⟨by omega, h.2⟩))]; rfl), trivial⟩)
      · skip
        refine dw_exit ?_
        show DW _ _ _ _ _
        refine stp In ?_
        refine dw_ret ?_
        exact fin 0 (hr := by (try simp only [go_sem, ff]); all_goals (rw [if_neg c1, if_neg (by omega), hv, allN_eq, if_neg (by omega), Bool.true_and]; congr 2; exact decide_eq_decide.2 (by omega)))
theorem bo126 : hasBody Tryz.prog 126 = true := by kernel_rfl
theorem rparts1_ct (s : Str) (hs : s.length ≤ 1000) : PureCt Tryz.prog 126 [.v (.string (bs s))] (.list false ((partsOf s).map sR)) := by
  rw [partsOf]
  refine pure_of_dw Tryz.func126 rfl bo126 (by simp [go_sem, D.nr, nrs, nrr]) (by simp [Tryz.f126]) ?_
  unfold Tryz.f126
  simp only [init_eq]
  have ff := True.intro
  refine stp In ?_
  refine dw_seq ?_
  refine stp In ?_
  refine cd (fun c1 => ?_) (fun c1 => ?_)
  · skip
    refine stp In ?_
    refine dw_ret ?_
    exact fin 0 (hr := by (try simp only [go_sem, ff]); all_goals (rw [if_pos c1]; rfl))
  · skip
    refine dw_skip ?_
    show DW _ _ _ _ _
    refine stp In ?_ (hok := by (try simp only [go_sem, ff]); all_goals (exact rsplit_ct _ hs))
    refine dw_ret ?_
    exact fin 0 (hr := by (try simp only [go_sem, ff]); all_goals (rw [if_neg c1]))

end Go.Proofs.YtipkfnkmdeopeaaGreatDoor
namespace Go.Proofs.YtipkfnkmdeopeaaGreatDoor
open Go.DL Go.Str
set_option maxRecDepth 10000
set_option linter.unusedSimpArgs false
set_option linter.unusedVariables false
theorem bo170 : hasBody Tryz.prog 170 = true := by kernel_rfl
theorem bo146 : hasBody Tryz.prog 146 = true := by kernel_rfl
theorem tvalid_ct (s : Str) : PureCt Tryz.prog 146 [.v (.string (bs s))] (.b (nameOk s)) := by
  refine pure_of_dw Tryz.func146 rfl bo146 (by simp [go_sem, D.nr, nrs, nrr]) (by simp [Tryz.f146]) ?_
  unfold Tryz.f146
  simp only [init_eq]
  have ff := True.intro
  refine stp In ?_
  refine dw_seq ?_
  refine stp In ?_
  refine cd (fun c1 => ?_) (fun c1 => ?_)
  · skip
    refine stp In ?_
    refine dw_ret ?_
    exact fin 0 (hr := by (try simp only [go_sem, ff]); all_goals (rw [nameOk, if_pos c1]))
  · skip
    refine dw_skip ?_
    show DW _ _ _ _ _
    refine dw_seq ?_
    refine stp In ?_
    refine cd (fun c3 => ?_) (fun c3 => ?_)
    · skip
      refine stp In ?_
      refine dw_ret ?_
      exact fin 0 (hr := by (try simp only [go_sem, ff]); all_goals (rw [nameOk, if_neg c1, if_pos (by omega)]))
    · skip
      refine dw_skip ?_
      show DW _ _ _ _ _
      refine stp In ?_
      refine dw_seq ?_
      refine stp In ?_
      refine dw_block ?_
      refine dw_rangeFunc (by simp only [go_sem, ff]) (by simp only [go_sem, ff]; exact rfl) Tryz.func170 rfl bo170 (by simp [Tryz.f170]) rfl (fun l rL hp ha hb hn => ?_)
      unfold Tryz.f170
      refine dw_seq ?_
      refine stp In ?_
      refine cd (fun d0 => ?_) (fun d0 => ?_)
      · skip
        exact absurd d0 c1
      · skip
        refine dw_skip ?_
        show DW _ _ _ _ _
        refine stp In ?_
        refine dw_block ?_
        refine lp (α := (Str) × (Nat) × (Bool) × Nat) [1] (fun ⟨rest, n, wild, nx⟩ => (n ≤ 8) ∧ (rest.length ≤ s.length) ∧ (7 < nx) ∧ (nameOk s = vscan (rparts rest) n wild) ∧ True) (fun ⟨rest, n, wild, nx⟩ => rest.length) (fun ⟨rest, n, wild, nx⟩ => [(4, .v (.string (bs rest)))]) (fun ⟨rest, n, wild, nx⟩ => [(0, ⟨4, [[.b false]]⟩), (6, ⟨3, [[.i n]]⟩), (7, ⟨4, [[.b wild]]⟩)]) (fun ⟨rest, n, wild, nx⟩ => nx) (s, 0, false, _) (hA := ⟨(by first | (omega) | (dsimp only; omega)), (by first | (first | omega | (simp; omega)) | (dsimp only; first | omega | (simp; omega))), iv, (by (try dsimp only); rw [nameOk_scan, if_neg c1, if_neg (by omega)]), trivial⟩) (round := ?_)
        rintro ⟨rest, n, wild, nx⟩ ⟨hn8, hl, hx, hv, -⟩
        show DW _ _ _ _ { n := _, t := tab _, h := _, nx := _, e := _ }
        simp only [List.cons_append, List.nil_append]
        have hL := lastIx_lt rest 46
        have n0 : 0 < nx := by omega
        have n6 : 6 < nx := by omega
        have n7 : 7 < nx := by omega
        refine dw_block ?_
        refine stp In ?_ (hok := by (try simp only [go_sem, ff]); all_goals (first | done | exact lastbyte_ct _ _ (by omega)))
        refine dw_seq ?_
        refine dw_seq ?_
        refine dw_yield (C := In) (r := rL) 5 (arr_at rfl) rfl rfl rfl (by simp only [List.take_succ_cons, List.take_zero, go_sem, ff]; exact rfl) ?_ (by simp only [go_sem, ff]; exact rfl) (by first | (simp only [go_sem, ff]; done) | (simp only [go_sem, ff]; exact rfl)) (by simp only [go_sem, ff]) (by simp only [go_sem, ff]; exact rfl) (by rw [hp]; rfl) (by rw [hp, hn]; show ∀ p ∈ [13], p < 30; decide) ?_
        · try simp only [go_sem, ff]
          all_goals (first | done | (repeat' (with_reducible apply And.intro)) <;> first | omega | (with_reducible assumption) | (intros; omega) | (intros; simp only [decide_eq_true_eq, decide_eq_false_iff_not, Bool.or_eq_true, Bool.and_eq_true, Bool.or_eq_false_iff, Bool.not_eq_true', Bool.not_eq_false'] at *; omega) | (simp_all; done) | (simp_all; omega))
        rw [ha, hb, hp, hn]
        show DW _ _ _ _ { n := _, t := setPs _ [13] _, h := _, nx := _ }
        simp only [setPs_cons, setPs_nil]
        refine rgn In ?_
        refine ⟨rfl, ?_⟩
        refine dw_block ?_
        refine stp In ?_
        refine dw_seq ?_
        refine stp In ?_
        refine cd (fun c9 => ?_) (fun c9 => ?_) (hp := rfl) (hq := rfl)
        · skip
          refine stp In ?_
          refine dw_ret ?_
          refine ⟨rfl, false, some .ret, ⟨rfl, rfl⟩, ⟨_, _, _, _, _, _⟩, by simp only [List.drop_succ_cons, List.drop_zero, S.put, go_sem, ff]; exact rfl, ?_, ?_⟩
          · try simp only [go_sem, ff]
            all_goals (first | done | (repeat' (with_reducible apply And.intro)) <;> first | omega | (with_reducible assumption) | (intros; omega) | (intros; simp only [decide_eq_true_eq, decide_eq_false_iff_not, Bool.or_eq_true, Bool.and_eq_true, Bool.or_eq_false_iff, Bool.not_eq_true', Bool.not_eq_false'] at *; omega) | (simp_all; done) | (simp_all; omega))
          try simp only [clear_eq]
          show DW _ _ _ _ _
          refine cd (fun d3 => ?_) (fun d3 => ?_) (hp := rfl) (hq := rfl)
          · skip
            refine dw_ret ?_
            refine ⟨.inr rfl, some .ret, rfl, ?_⟩
            exact fin 0 (hr := by (try simp only [go_sem, ff]); all_goals (first | (rw [hv, rparts_eq, vscan_1 c9]; done) | (rw [hv, rparts_eq, vscan_2 c9 c12])))
          · skip
            simp at d3
        · skip
          have c9b := cnt_le c9
          refine dw_skip ?_
          show DW _ _ _ _ _
          refine stp In ?_
          refine stp In ?_ (hok := by (try simp only [go_sem, ff]); all_goals (first | done | (intros; exact islabel_ct _)))
          refine cd (fun c12 => ?_) (fun c12 => ?_) (hp := rfl) (hq := rfl)
          · skip
            refine stp In ?_
            refine dw_ret ?_
            refine ⟨rfl, false, some .ret, ⟨rfl, rfl⟩, ⟨_, _, _, _, _, _⟩, by simp only [List.drop_succ_cons, List.drop_zero, S.put, go_sem, ff]; exact rfl, ?_, ?_⟩
            · try simp only [go_sem, ff]
              all_goals (first | done | (repeat' (with_reducible apply And.intro)) <;> first | omega | (with_reducible assumption) | (intros; omega) | (intros; simp only [decide_eq_true_eq, decide_eq_false_iff_not, Bool.or_eq_true, Bool.and_eq_true, Bool.or_eq_false_iff, Bool.not_eq_true', Bool.not_eq_false'] at *; omega) | (simp_all; done) | (simp_all; omega))
            try simp only [clear_eq]
            show DW _ _ _ _ _
            refine cd (fun d3 => ?_) (fun d3 => ?_) (hp := rfl) (hq := rfl)
            · skip
              refine dw_ret ?_
              refine ⟨.inr rfl, some .ret, rfl, ?_⟩
              exact fin 0 (hr := by (try simp only [go_sem, ff]); all_goals (first | (rw [hv, rparts_eq, vscan_1 c9]; done) | (rw [hv, rparts_eq, vscan_2 c9 c12])))
            · skip
              simp at d3
          · skip
            refine dw_skip ?_
            refine ⟨rfl, true, none, ⟨rfl, rfl⟩, ⟨_, _, _, _, _, _⟩, by simp only [List.drop_succ_cons, List.drop_zero, S.put, go_sem, ff]; exact rfl, ?_, ?_⟩
            · try simp only [go_sem, ff]
              all_goals (first | done | (repeat' (with_reducible apply And.intro)) <;> first | omega | (with_reducible assumption) | (intros; omega) | (intros; simp only [decide_eq_true_eq, decide_eq_false_iff_not, Bool.or_eq_true, Bool.and_eq_true, Bool.or_eq_false_iff, Bool.not_eq_true', Bool.not_eq_false'] at *; omega) | (simp_all; done) | (simp_all; omega))
            try simp only [clear_eq]
            show DW _ _ _ _ _
            refine cd (fun d3 => ?_) (fun d3 => ?_)
            · skip
              refine dw_ret ?_
              refine ⟨.inr rfl, none, rfl, ?_⟩
              show DW _ _ _ _ _
              refine stp In ?_
              refine dw_ret ?_
              exact fin 0 (hr := by (try simp only [go_sem, ff]); all_goals (rw [hv, rparts_eq, vscan_3 c9 c12, if_pos d3]; rfl))
            · skip
              refine dw_skip ?_
              show DW _ _ _ _ _
              refine rgn In ?_
              show ∃ _, _
              exact rnd (rest.take (lastIx rest 46).toNat, n + 1, ((rest.drop (lastIx rest 46 + 1).toNat) == [42]), _) (h1 := ⟨(by first | (omega) | (dsimp only; omega)), (by first | (first | omega | (simp; omega)) | (dsimp only; first | omega | (simp; omega))), iv, (by (try dsimp only); rw [hv, rparts_eq, vscan_3 c9 c12, if_neg d3]), trivial⟩) (h2 := by show (_ : Nat) < _; (simp; omega))
theorem bo110 : hasBody Tryz.prog 110 = true := by kernel_rfl
theorem nvalid_ct (s : Str) : PureCt Tryz.prog 110 [.v (.string (bs s))] (.b (nameOk s)) := by
  refine pure_of_dw Tryz.func110 rfl bo110 (by simp [go_sem, D.nr, nrs, nrr]) (by simp [Tryz.f110]) ?_
  unfold Tryz.f110
  simp only [init_eq]
  have ff := True.intro
  refine stp In ?_
  refine stp In ?_ (hok := by (try simp only [go_sem, ff]); all_goals (exact tvalid_ct _))
  refine dw_ret ?_
  exact fin 0 (hr := by (try simp only [go_sem, ff]); all_goals (rfl))

end Go.Proofs.YtipkfnkmdeopeaaGreatDoor
namespace Go.Proofs.YtipkfnkmdeopeaaGreatDoor
open Go.DL Go.Str Go.RowKit
set_option maxRecDepth 10000
set_option linter.unusedSimpArgs false
set_option linter.unusedVariables false
def cmpRen : Go.Shelf.Ren := { f := fun x => match x with | 213 => 194 | 265 => 202 | n => n, t := fun x => match x with | 3 => 3 | 9 => 9 | n => n, g := fun n => n }
theorem cmpLays : Go.Proofs.Lays.n213 Tryz.prog cmpRen := {
  mixed := mix
  f213 := Tryz.func194.trans (by kernel_rfl)
  f265 := Tryz.func202.trans (by kernel_rfl)
  t3 := Tryz.underlying3
  a3 := Tryz.isAgg3
  z3 := Tryz.sizeOf3
  v3 := Tryz.zeroValue3
  t9 := Tryz.underlying9
  a9 := Tryz.isAgg9
  z9 := Tryz.sizeOf9
  v9 := Tryz.zeroValue9 }
theorem cmpS0_ct (a b : Str) : PureCt Tryz.prog 194 [.v (.string (bs a)), .v (.string (bs b))] (.i (Go.Lib.compareBytes a b)) := by
  refine ⟨by kernel_rfl, by simp [D.nr], fun w I vs hI hg hr => ?_⟩
  obtain ⟨x, l, rfl, h1, h2⟩ := hr.of_cons
  obtain ⟨y, l, rfl, h3, h4⟩ := h2.of_cons
  rw [h4.of_nil, h1.v_inv, h3.v_inv]
  have := Go.Proofs.Any.bytealg_CompareString cmpLays (bs a) (bs b) w
  refine callsIn_wide.2 (this.mono ?_)
  rintro e w' ⟨rfl, rfl⟩
  refine ⟨_, rfl, ⟨rfl, rfl, rfl, Nat.le_refl _, Nat.le_refl _, fun _ _ => rfl⟩, ?_⟩
  rw [bs_data, bs_data]
  exact .v _
theorem bo173 : hasBody Tryz.prog 173 = true := by kernel_rfl
theorem cmpS1_ct (a : Str) (b : Str) : PureCt Tryz.prog 173 [.v (.string (bs a)), .v (.string (bs b))] (.i (Go.Lib.compareBytes a b)) := by
  refine pure_of_dw Tryz.func173 rfl bo173 (by simp [go_sem, D.nr, nrs, nrr]) (by simp [Tryz.f173]) ?_
  unfold Tryz.f173
  simp only [init_eq]
  have ff := True.intro
  refine stp In ?_
  refine stp In ?_ (hok := by (try simp only [go_sem, ff]); all_goals (exact cmpS0_ct _ _))
  refine dw_ret ?_
  exact fin 0 (hr := by (try simp only [go_sem, ff]); all_goals (rfl))

end Go.Proofs.YtipkfnkmdeopeaaGreatDoor
namespace Go.Proofs.YtipkfnkmdeopeaaGreatDoor
open Go.DL Go.Str Go.RowKit
set_option maxRecDepth 10000
set_option linter.unusedSimpArgs false
set_option linter.unusedVariables false
theorem bo172 : hasBody Tryz.prog 172 = true := by kernel_rfl
theorem puller_ct (s : Str) (h : H) (n : Nat) : RCt Tryz.prog 172 [.v (.string (bs s))] h n (fun d h' n' => d = .fn (.func 193) [] [.mptr (n + 5) 0 0, .mptr (n + 4) 0 0] ∧ h' = upd (upd h (n + 4) (some ⟨9, [[.v (.string (bs s))]]⟩)) (n + 5) (some ⟨4, [[.b (s != [46])]]⟩) ∧ n' = n + 10) := by
  refine rct_of_dw Tryz.func172 rfl bo172 (by simp [Tryz.f172]) (fun hnone => ?_)
  unfold Tryz.f172
  have ff := True.intro
  have e45 : (n + 4 = n + 5) = False := eq_false (by omega)
  have e54 : (n + 5 = n + 4) = False := eq_false (by omega)
  have ff := And.intro @e45 (And.intro @e54 ff)
  refine stp In ?_
  refine stp In ?_
  refine stp In ?_
  refine dw_ret ?_
  exact finr (upd (upd h (n + 4) (some ⟨9, [[.v (.string (bs s))]]⟩)) (n + 5) (some ⟨4, [[.b (s != [46])]]⟩)) (hr := by (try simp only [go_sem, ff]); all_goals (exact ⟨rfl, rfl, rfl⟩)) (hh := by intro q; left; by_cases e1 : q = n + 5 <;> by_cases e2 : q = n + 4 <;> simp [upd, e1, e2])
theorem bo193 : hasBody Tryz.prog 193 = true := by kernel_rfl
theorem pull_ct (more : Bool) (rest : Str) (m r : Nat) (h : H) (n : Nat) (hm : h m = some ⟨4, [[.b more]]⟩) (hr : h r = some ⟨9, [[.v (.string (bs rest))]]⟩) (hmr : m ≠ r) (hl : rest.length ≤ 1000) : RCt Tryz.prog 193 [.mptr m 0 0, .mptr r 0 0] h n (fun d h' n' => d = .tuple [.v (.string (bs (plGive more rest))), .b more] ∧ h' = upd (upd h m (some ⟨4, [[.b (plMore more rest)]]⟩)) r (some ⟨9, [[.v (.string (bs (plRest more rest)))]]⟩) ∧ n ≤ n') := by
  refine rct_of_dw Tryz.func193 rfl bo193 (by simp [Tryz.f193]) (fun hnone => ?_)
  unfold Tryz.f193
  have ff := True.intro
  have hrm : r ≠ m := fun e => hmr e.symm
  have hL := lastIx_lt rest 46
  have ff := And.intro @hm (And.intro @hr (And.intro @hmr (And.intro @hrm ff)))
  refine stp In ?_
  refine dw_seq ?_
  refine stp In ?_
  refine cd (fun c1 => ?_) (fun c1 => ?_)
  · skip
    refine stp In ?_
    refine dw_ret ?_
    exact finr (upd (upd h m (some ⟨4, [[.b (plMore more rest)]]⟩)) r (some ⟨9, [[.v (.string (bs (plRest more rest)))]]⟩)) (hr := by (try simp only [go_sem, ff]); all_goals (first | exact Nat.le_add_right _ _ | (refine ⟨?_, Nat.le_add_right _ _⟩; simp_all [plGive]))) (hh := by intro q; left; by_cases e1 : q = r <;> by_cases e2 : q = m <;> simp_all [upd, plMore, plRest] <;> (rw [if_neg (by omega)]))
  · skip
    refine dw_skip ?_
    show DW _ _ _ _ _
    refine stp In ?_ (hok := by (try simp only [go_sem, ff]); all_goals (first | done | exact lastbyte_ct _ _ (by omega)))
    refine stp In ?_
    refine dw_seq ?_
    refine stp In ?_
    refine cd (fun c2 => ?_) (fun c2 => ?_)
    · skip
      refine rgn In ?_
      show DW _ _ _ _ _
      refine stp In ?_
      refine dw_ret ?_
      exact finr (upd (upd h m (some ⟨4, [[.b (plMore more rest)]]⟩)) r (some ⟨9, [[.v (.string (bs (plRest more rest)))]]⟩)) (hr := by (try simp only [go_sem, ff]); all_goals (first | exact Nat.le_add_right _ _ | (refine ⟨?_, Nat.le_add_right _ _⟩; simp_all [plGive]))) (hh := by intro q; left; by_cases e1 : q = r <;> by_cases e2 : q = m <;> simp_all [upd, plMore, plRest] <;> (rw [if_neg (by omega)]))
    · skip
      refine rgn In ?_
      show DW _ _ _ _ _
      refine stp In ?_
      refine dw_ret ?_
      exact finr (upd (upd h m (some ⟨4, [[.b (plMore more rest)]]⟩)) r (some ⟨9, [[.v (.string (bs (plRest more rest)))]]⟩)) (hr := by (try simp only [go_sem, ff]); all_goals (first | exact Nat.le_add_right _ _ | (refine ⟨?_, Nat.le_add_right _ _⟩; simp_all [plGive]))) (hh := by intro q; left; by_cases e1 : q = r <;> by_cases e2 : q = m <;> simp_all [upd, plMore, plRest] <;> (rw [if_neg (by omega)]))

end Go.Proofs.YtipkfnkmdeopeaaGreatDoor
namespace Go.Proofs.YtipkfnkmdeopeaaGreatDoor
open Go.DL Go.Str Go.RowKit
set_option maxRecDepth 10000
set_option linter.unusedSimpArgs false
set_option linter.unusedVariables false
theorem bo148 : hasBody Tryz.prog 148 = true := by kernel_rfl
theorem ncompare_ct (a : Str) (b : Str) : PureCt Tryz.prog 148 [.v (.string (bs a)), .v (.string (bs b))] (.tuple [.i (if nameOk a && nameOk b then nmCmp a b else 0), .i (if nameOk a && nameOk b then 0 else 11)]) := by
  refine pure_of_dw Tryz.func148 rfl bo148 (by simp [go_sem, D.nr, nrs, nrr]) (by simp [Tryz.f148]) ?_
  unfold Tryz.f148
  simp only [init_eq]
  have ff := True.intro
  refine stp In ?_
  refine stp In ?_
  refine dw_seq ?_
  refine stp In ?_ (hok := by (try simp only [go_sem, ff]); all_goals (first | done | (simp only [tvalid_ct, and_true, implies_true]; done) | ((repeat' (with_reducible apply And.intro)) <;> first | exact tvalid_ct _ | (intros; exact tvalid_ct _))))
  refine cd (fun c1 => ?_) (fun c1 => ?_) (hp := rfl)
  · skip
    refine stp In ?_
    refine dw_ret ?_
    exact fin 1 (hr := by (try simp only [go_sem, ff]); all_goals ((have e : (nameOk a && nameOk b) = false := by revert c1; cases nameOk a <;> cases nameOk b <;> simp); rw [e]; rfl))
  · skip
    refine dw_skip ?_
    show DW _ _ _ _ _
    refine dw_seq ?_
    refine stp In ?_
    refine cd (fun c2 => ?_) (fun c2 => ?_)
    · skip
      refine stp In ?_
      refine dw_ret ?_
      exact fin 1 (hr := by (try simp only [go_sem, ff]); all_goals (rw [c1.1, c1.2, nmCmp, if_pos c2]; rfl))
    · skip
      refine dw_skip ?_
      show DW _ _ _ _ _
      refine dw_seq (cal1 In 1 (hct := by exact puller_ct b _ _) (hk := ?_))
      rintro res h2 n2 ⟨rfl, rfl, rfl⟩
      refine cal2 In ?_
      show DW _ _ _ _ _
      refine stp In ?_
      refine dw_seq ?_
      refine stp In ?_
      refine dw_block ?_
      refine dw_rangeFunc (by simp only [go_sem, ff]) (by simp only [go_sem, ff]; exact rfl) Tryz.func170 rfl bo170 (by simp [Tryz.f170]) rfl (fun l rL hp ha hb hn => ?_)
      unfold Tryz.f170
      refine dw_seq ?_
      refine stp In ?_
      refine cd (fun d0 => ?_) (fun d0 => ?_)
      · skip
        refine dw_ret ?_
        refine ⟨.inr rfl, none, rfl, ?_⟩
        show DW _ _ _ _ _
        refine stp In ?_
        refine dw_ret ?_
        exact fin 1 (hr := by (try simp only [go_sem, ff]); all_goals (first | (rw [c1.1, c1.2, nmCmp, if_neg c2, hv, cmp_3 c11 c14, if_pos d3]; rfl) | (rw [c1.1, c1.2, nmCmp, if_neg c2, d0]; rfl)))
      · skip
        refine dw_skip ?_
        show DW _ _ _ _ _
        refine stp In ?_
        refine dw_block ?_
        refine lp (α := (Str) × (Bool) × (Str) × Nat) [1] (fun ⟨rest, more, rest2, nx⟩ => (rest.length ≤ 60) ∧ (rest2.length ≤ 60) ∧ (30 < nx) ∧ (cmpLp (rlabs a) (rlabs b) = cmpLp (rparts rest) (pl more rest2)) ∧ True) (fun ⟨rest, more, rest2, nx⟩ => rest.length) (fun ⟨rest, more, rest2, nx⟩ => [(4, .v (.string (bs rest)))]) (fun ⟨rest, more, rest2, nx⟩ => [(0, ⟨3, [[.i 0]]⟩), (1, ⟨33, [[.i 0]]⟩), (22, ⟨9, [[.v (.string (bs rest2))]]⟩), (23, ⟨4, [[.b more]]⟩), (30, ⟨184, [[.fn (.func 193) [] [.mptr 23 0 0, .mptr 22 0 0]]]⟩)]) (fun ⟨rest, more, rest2, nx⟩ => nx) (a, (b != [46]), b, _) (hA := ⟨(by first | (exact nameOk_len c1.1) | (dsimp only; exact nameOk_len c1.1)), (by first | (exact nameOk_len c1.2) | (dsimp only; exact nameOk_len c1.2)), iv, (by (try dsimp only); rw [rlabs_pl b, rlabs, if_neg d0]), trivial⟩) (round := ?_)
        rintro ⟨rest, more, rest2, nx⟩ ⟨hl, hl2, hx, hv, -⟩
        show DW _ _ _ _ { n := _, t := tab _, h := _, nx := _, e := _ }
        simp only [List.cons_append, List.nil_append]
        have hL := lastIx_lt rest 46
        have n0 : 0 < nx := by omega
        have n1 : 1 < nx := by omega
        have n22 : 22 < nx := by omega
        have n23 : 23 < nx := by omega
        refine dw_block ?_
        refine stp In ?_ (hok := by (try simp only [go_sem, ff]); all_goals (first | done | exact lastbyte_ct _ _ (by omega)))
        refine dw_seq ?_
        refine dw_seq ?_
        refine dw_yield (C := In) (r := rL) 5 (arr_at rfl) rfl rfl rfl (by simp only [List.take_succ_cons, List.take_zero, go_sem, ff]; exact rfl) ?_ (by simp only [go_sem, ff]; exact rfl) (by first | (simp only [go_sem, ff]; done) | (simp only [go_sem, ff]; exact rfl)) (by simp only [go_sem, ff]) (by simp only [go_sem, ff]; exact rfl) (by rw [hp]; rfl) (by rw [hp, hn]; show ∀ p ∈ [32], p < 46; decide) ?_
        · try simp only [go_sem, ff]
          all_goals (first | done | (repeat' (with_reducible apply And.intro)) <;> first | omega | (with_reducible assumption) | (intros; omega) | (intros; simp only [decide_eq_true_eq, decide_eq_false_iff_not, Bool.or_eq_true, Bool.and_eq_true, Bool.or_eq_false_iff, Bool.not_eq_true', Bool.not_eq_false'] at *; omega) | (simp_all; done) | (simp_all; omega))
        rw [ha, hb, hp, hn]
        show DW _ _ _ _ { n := _, t := setPs _ [32] _, h := _, nx := _ }
        simp only [setPs_cons, setPs_nil]
        refine rgn In ?_
        refine ⟨rfl, ?_⟩
        refine dw_block ?_
        refine dw_seq (cal1 In 1 (hct := by exact pull_ct more rest2 23 22 _ _ rfl rfl (by decide) (by omega)) (hk := ?_))
        rintro res h2 n2 ⟨rfl, rfl, hn2⟩
        refine cal2 In ?_
        show DW _ _ _ _ _
        refine dw_seq ?_
        refine stp In ?_
        refine cd (fun c11 => ?_) (fun c11 => ?_) (hp := rfl) (hq := rfl)
        · skip
          refine stp In ?_
          refine dw_ret ?_
          refine ⟨rfl, false, some .ret, ⟨rfl, rfl⟩, ⟨_, _, _, _, _, _⟩, by simp only [List.drop_succ_cons, List.drop_zero, S.put, go_sem, ff]; exact rfl, ?_, ?_⟩
          · try simp only [go_sem, ff]
            all_goals (first | done | (repeat' (with_reducible apply And.intro)) <;> first | omega | (with_reducible assumption) | (intros; omega) | (intros; simp only [decide_eq_true_eq, decide_eq_false_iff_not, Bool.or_eq_true, Bool.and_eq_true, Bool.or_eq_false_iff, Bool.not_eq_true', Bool.not_eq_false'] at *; omega) | (simp_all; done) | (simp_all; omega))
          try simp only [clear_eq]
          show DW _ _ _ _ _
          refine cd (fun d3 => ?_) (fun d3 => ?_) (hp := rfl) (hq := rfl)
          · skip
            refine dw_ret ?_
            refine ⟨.inr rfl, some .ret, rfl, ?_⟩
            exact fin 1 (hr := by (try simp only [go_sem, ff]); all_goals (first | (rw [c1.1, c1.2, nmCmp, if_neg c2, hv, cmp_1 c11]; done) | (rw [c1.1, c1.2, nmCmp, if_neg c2, hv, cmp_1 c11]; rfl) | (rw [c1.1, c1.2, nmCmp, if_neg c2, hv, cmp_2 c11 c14]; rfl)))
          · skip
            simp at d3
        · skip
          refine dw_skip ?_
          show DW _ _ _ _ _
          refine stp In ?_ (hok := by (try simp only [go_sem, ff]); all_goals (exact cmpS1_ct _ _))
          refine stp In ?_
          refine cd (fun c14 => ?_) (fun c14 => ?_) (hp := rfl) (hq := rfl)
          · skip
            refine stp In ?_
            refine dw_ret ?_
            refine ⟨rfl, false, some .ret, ⟨rfl, rfl⟩, ⟨_, _, _, _, _, _⟩, by simp only [List.drop_succ_cons, List.drop_zero, S.put, go_sem, ff]; exact rfl, ?_, ?_⟩
            · try simp only [go_sem, ff]
              all_goals (first | done | (repeat' (with_reducible apply And.intro)) <;> first | omega | (with_reducible assumption) | (intros; omega) | (intros; simp only [decide_eq_true_eq, decide_eq_false_iff_not, Bool.or_eq_true, Bool.and_eq_true, Bool.or_eq_false_iff, Bool.not_eq_true', Bool.not_eq_false'] at *; omega) | (simp_all; done) | (simp_all; omega))
            try simp only [clear_eq]
            show DW _ _ _ _ _
            refine cd (fun d3 => ?_) (fun d3 => ?_) (hp := rfl) (hq := rfl)
            · skip
              refine dw_ret ?_
              refine ⟨.inr rfl, some .ret, rfl, ?_⟩
              exact fin 1 (hr := by (try simp only [go_sem, ff]); all_goals (first | (rw [c1.1, c1.2, nmCmp, if_neg c2, hv, cmp_1 c11]; done) | (rw [c1.1, c1.2, nmCmp, if_neg c2, hv, cmp_1 c11]; rfl) | (rw [c1.1, c1.2, nmCmp, if_neg c2, hv, cmp_2 c11 c14]; rfl)))
            · skip
              simp at d3
          · skip
            refine dw_skip ?_
            refine ⟨rfl, true, none, ⟨rfl, rfl⟩, ⟨_, _, _, _, _, _⟩, by simp only [List.drop_succ_cons, List.drop_zero, S.put, go_sem, ff]; exact rfl, ?_, ?_⟩
            · try simp only [go_sem, ff]
              all_goals (first | done | (repeat' (with_reducible apply And.intro)) <;> first | omega | (with_reducible assumption) | (intros; omega) | (intros; simp only [decide_eq_true_eq, decide_eq_false_iff_not, Bool.or_eq_true, Bool.and_eq_true, Bool.or_eq_false_iff, Bool.not_eq_true', Bool.not_eq_false'] at *; omega) | (simp_all; done) | (simp_all; omega))
            try simp only [clear_eq]
            show DW _ _ _ _ _
            refine cd (fun d3 => ?_) (fun d3 => ?_)
            · skip
              refine dw_ret ?_
              refine ⟨.inr rfl, none, rfl, ?_⟩
              show DW _ _ _ _ _
              refine stp In ?_
              refine dw_ret ?_
              exact fin 1 (hr := by (try simp only [go_sem, ff]); all_goals (first | (rw [c1.1, c1.2, nmCmp, if_neg c2, hv, cmp_3 c11 c14, if_pos d3]; rfl) | (rw [c1.1, c1.2, nmCmp, if_neg c2, d0]; rfl)))
            · skip
              refine dw_skip ?_
              show DW _ _ _ _ _
              refine rgn In ?_
              show ∃ _, _
              exact rnd (rest.take (lastIx rest 46).toNat, plMore more rest2, plRest more rest2, _) (h1 := ⟨(by first | (first | omega | (simp; omega)) | (dsimp only; first | omega | (simp; omega))), (by (try dsimp only); first | omega | (have := plRest_len more rest2; omega)), iv, (by (try dsimp only); rw [hv, cmp_3 c11 c14, if_neg d3]), trivial⟩) (h2 := by show (_ : Nat) < _; (simp; omega))

end Go.Proofs.YtipkfnkmdeopeaaGreatDoor
namespace Go.Proofs.YtipkfnkmdeopeaaGreatDoor
open Go.DL Go.Str Go.RowKit
set_option maxRecDepth 10000
set_option linter.unusedSimpArgs false
set_option linter.unusedVariables false
theorem bo133 : hasBody Tryz.prog 133 = true := by kernel_rfl
theorem rorder_ct (a : Str) (b : Str) (ha : a.length ≤ 1000) (hb : b.length ≤ 1000) : PureCt Tryz.prog 133 [.v (.string (bs a)), .v (.string (bs b))] (.i (nmOrd a b)) := by
  rw [nmOrd_ix]
  refine pure_of_dw Tryz.func133 rfl bo133 (by simp [go_sem, D.nr, nrs, nrr]) (by simp [Tryz.f133]) ?_
  unfold Tryz.f133
  simp only [init_eq]
  have ff := True.intro
  have hl := (partsOf_len a).2
  have hm := (partsOf_len b).2
  refine stp In ?_
  refine stp In ?_ (hok := by (try simp only [go_sem, ff]); all_goals (exact rparts1_ct _ ha))
  refine stp In ?_ (hok := by (try simp only [go_sem, ff]); all_goals (exact rparts1_ct _ hb))
  refine dw_seq ?_
  refine stp In ?_
  refine dw_block ?_
  refine lp (α := (Nat) × Nat) [5, 6] (fun ⟨k, nx⟩ => (1 ≤ k) ∧ (k ≤ (partsOf a).length + 1) ∧ (ordIx (partsOf a) (partsOf b) 1 = ordIx (partsOf a) (partsOf b) k) ∧ True) (fun ⟨k, nx⟩ => (partsOf a).length + 1 - k) (fun ⟨k, nx⟩ => [(7, .i k)]) (fun ⟨k, nx⟩ => []) (fun ⟨k, nx⟩ => nx) (1, _) (hA := ⟨iv, iv, rfl, trivial⟩) (round := ?_)
  rintro ⟨k, nx⟩ ⟨hk, hk1, hv, -⟩
  show DW _ _ _ _ { n := _, t := tab _, h := _, nx := _, e := _ }
  simp only [List.cons_append, List.nil_append]
  refine dw_seq ?_
  refine stp In ?_
  refine cd (fun c1 => ?_) (fun c1 => ?_) (hp := rfl) (hq := rfl)
  · skip
    have hk2 : k ≤ (partsOf a).length ∧ k ≤ (partsOf b).length := by simp only [Bool.and_eq_true, decide_eq_true_eq] at c1; omega
    have e1 : (((partsOf a).length : Int) - k).toNat = (partsOf a).length - k := by omega
    have e2 : (((partsOf b).length : Int) - k).toNat = (partsOf b).length - k := by omega
    have g1 : (partsOf a).length - k < (partsOf a).length := by omega
    have g2 : (partsOf b).length - k < (partsOf b).length := by omega
    have ff := And.intro @e1 (And.intro @e2 (And.intro (getD_sR g1) (And.intro (getD_sR g2) ff)))
    refine dw_skip ?_
    show DW _ _ _ _ _
    refine dw_seq ?_
    refine dw_block ?_
    refine stp In ?_
    refine stp In ?_
    refine dw_seq ?_
    refine stp In ?_
    refine cd (fun c2 => ?_) (fun c2 => ?_) (hp := rfl) (hq := rfl)
    · skip
      refine stp In ?_
      refine dw_ret ?_
      exact fin 0 (hr := by (try simp only [go_sem, ff]); all_goals (rw [hv, ordIx_eq, if_pos hk2, if_pos c2]))
    · skip
      refine dw_skip ?_
      show DW _ _ _ _ _
      refine stp In ?_
      refine cd (fun c3 => ?_) (fun c3 => ?_) (hp := rfl) (hq := rfl)
      · skip
        refine stp In ?_
        refine dw_ret ?_
        exact fin 0 (hr := by (try simp only [go_sem, ff]); all_goals (rw [hv, ordIx_eq, if_pos hk2, if_neg (by rw [c2]; simp), if_pos c3]))
      · skip
        refine dw_skip ?_
        show DW _ _ _ _ _
        refine rgn In ?_
        show ∃ _, _
        exact rnd (k + 1, _) (h1 := ⟨iv, iv, (by (try dsimp only); rw [hv, ordIx_eq, if_pos hk2, if_neg (by rw [c2]; simp), if_neg (by rw [c3]; simp)]), trivial⟩)
  · skip
    have hk2 : ¬ (k ≤ (partsOf a).length ∧ k ≤ (partsOf b).length) := by simp only [Bool.and_eq_false_iff, decide_eq_false_iff_not] at c1; omega
    refine dw_exit ?_
    show DW _ _ _ _ _
    refine dw_seq ?_
    refine stp In ?_
    refine cd (fun c4 => ?_) (fun c4 => ?_)
    · skip
      refine stp In ?_
      refine dw_ret ?_
      exact fin 0 (hr := by (try simp only [go_sem, ff]); all_goals (rw [hv, ordIx_eq, if_neg hk2, if_pos (by omega)]))
    · skip
      refine dw_skip ?_
      show DW _ _ _ _ _
      refine dw_seq ?_
      refine stp In ?_
      refine cd (fun c5 => ?_) (fun c5 => ?_)
      · skip
        refine stp In ?_
        refine dw_ret ?_
        exact fin 0 (hr := by (try simp only [go_sem, ff]); all_goals (rw [hv, ordIx_eq, if_neg hk2, if_neg (by omega), if_pos (by omega)]))
      · skip
        refine dw_skip ?_
        show DW _ _ _ _ _
        refine stp In ?_
        refine dw_ret ?_
        exact fin 0 (hr := by (try simp only [go_sem, ff]); all_goals (rw [hv, ordIx_eq, if_neg hk2, if_neg (by omega), if_neg (by omega)]))
theorem bo131 : hasBody Tryz.prog 131 = true := by kernel_rfl
theorem rncompare_ct (a : Str) (b : Str) : PureCt Tryz.prog 131 [.v (.string (bs a)), .v (.string (bs b))] (.tuple [.i (if nameOk a && nameOk b then nmCmp a b else 0), .i (if nameOk a && nameOk b then 0 else 11)]) := by
  refine pure_of_dw Tryz.func131 rfl bo131 (by simp [go_sem, D.nr, nrs, nrr]) (by simp [Tryz.f131]) ?_
  unfold Tryz.f131
  simp only [init_eq]
  have ff := True.intro
  refine stp In ?_
  refine stp In ?_ (hok := by (try simp only [go_sem, ff]); all_goals (exact rnvalid_ct _))
  refine stp In ?_ (hok := by (try simp only [go_sem, ff]); all_goals (exact rnvalid_ct _))
  refine dw_seq ?_
  refine stp In ?_
  refine cd (fun c1 => ?_) (fun c1 => ?_) (hp := rfl)
  · skip
    have e : (nameOk a && nameOk b) = false := by revert c1; cases nameOk a <;> cases nameOk b <;> simp
    refine stp In ?_
    refine dw_ret ?_
    exact fin 1 (hr := by (try simp only [go_sem, ff]); all_goals (rw [e]; rfl))
  · skip
    have e : (nameOk a && nameOk b) = true := by rw [c1.1, c1.2]; rfl
    have la := nameOk_len c1.1
    have lb := nameOk_len c1.2
    refine dw_skip ?_
    show DW _ _ _ _ _
    refine stp In ?_ (hok := by (try simp only [go_sem, ff]); all_goals (exact rorder_ct _ _ (by omega) (by omega)))
    refine dw_ret ?_
    exact fin 1 (hr := by (try simp only [go_sem, ff]); all_goals (rw [e, nmCmp_ord]; rfl))

end Go.Proofs.YtipkfnkmdeopeaaGreatDoor
namespace Go.Proofs.YtipkfnkmdeopeaaGreatDoor
open Go.DL Go.Str Go.Rec
set_option maxRecDepth 10000
set_option linter.unusedSimpArgs false
set_option linter.unusedVariables false
theorem bo150 : hasBody Tryz.prog 150 = true := by kernel_rfl
theorem within_ct (x : Int) (lo : Int) (hi : Int) : PureCt Tryz.prog 150 [.i x, .i lo, .i hi] (.b (inR x lo hi)) := by
  refine pure_of_dw Tryz.func150 rfl bo150 (by simp [go_sem, D.nr, nrs, nrr]) (by simp [Tryz.f150]) ?_
  unfold Tryz.f150
  simp only [init_eq]
  have ff := True.intro
  refine stp In ?_
  refine stp In ?_
  refine dw_ret ?_
  exact fin 0 (hr := by (try simp only [go_sem, ff]); all_goals (rfl))
theorem bo195 : hasBody Tryz.prog 195 = true := by kernel_rfl
theorem withinb_ct (x : Int) (lo : Int) (hi : Int) : PureCt Tryz.prog 195 [.v (.int .u8 x), .v (.int .u8 lo), .v (.int .u8 hi)] (.b (inR x lo hi)) := by
  refine pure_of_dw Tryz.func195 rfl bo195 (by simp [go_sem, D.nr, nrs, nrr]) (by simp [Tryz.f195]) ?_
  unfold Tryz.f195
  simp only [init_eq]
  have ff := True.intro
  refine stp In ?_
  refine stp In ?_
  refine dw_ret ?_
  exact fin 0 (hr := by (try simp only [go_sem, ff]); all_goals (rfl))
theorem bo127 : hasBody Tryz.prog 127 = true := by kernel_rfl
theorem rwithin_ct (x : Int) (lo : Int) (hi : Int) : PureCt Tryz.prog 127 [.i x, .i lo, .i hi] (.b (inR x lo hi)) := by
  refine pure_of_dw Tryz.func127 rfl bo127 (by simp [go_sem, D.nr, nrs, nrr]) (by simp [Tryz.f127]) ?_
  unfold Tryz.f127
  simp only [init_eq]
  have ff := True.intro
  refine stp In ?_
  refine stp In ?_
  refine dw_ret ?_
  exact fin 0 (hr := by (try simp only [go_sem, ff]); all_goals (rfl))
theorem bo174 : hasBody Tryz.prog 174 = true := by kernel_rfl
theorem nanI_ct (x : Int) : PureCt Tryz.prog 174 [.i x] (.b (x != x)) := by
  refine pure_of_dw Tryz.func174 rfl bo174 (by simp [go_sem, D.nr, nrs, nrr]) (by simp [Tryz.f174]) ?_
  unfold Tryz.f174
  simp only [init_eq]
  have ff := True.intro
  refine stp In ?_
  refine stp In ?_
  refine dw_ret ?_
  exact fin 0 (hr := by (try simp only [go_sem, ff]); all_goals (rfl))
theorem bo196 : hasBody Tryz.prog 196 = true := by kernel_rfl
theorem nanS_ct (x : Str) : PureCt Tryz.prog 196 [.v (.string (bs x))] (.b (x != x)) := by
  refine pure_of_dw Tryz.func196 rfl bo196 (by simp [go_sem, D.nr, nrs, nrr]) (by simp [Tryz.f196]) ?_
  unfold Tryz.f196
  simp only [init_eq]
  have ff := True.intro
  refine stp In ?_
  refine stp In ?_
  refine dw_ret ?_
  exact fin 0 (hr := by (try simp only [go_sem, ff]); all_goals (rfl))
theorem bo149 : hasBody Tryz.prog 149 = true := by kernel_rfl
theorem cmpint_ct (x : Int) (y : Int) : PureCt Tryz.prog 149 [.i x, .i y] (.i (cmpI x y)) := by
  refine pure_of_dw Tryz.func149 rfl bo149 (by simp [go_sem, D.nr, nrs, nrr]) (by simp [Tryz.f149]) ?_
  unfold Tryz.f149
  simp only [init_eq]
  have ff := True.intro
  refine stp In ?_
  refine stp In ?_ (hok := by (try simp only [go_sem, ff]); all_goals (have h := nanI_ct x; simp only [bne_self_eq_false] at h; exact h))
  refine stp In ?_ (hok := by (try simp only [go_sem, ff]); all_goals (have h := nanI_ct y; simp only [bne_self_eq_false] at h; exact h))
  refine dw_seq ?_
  refine stp In ?_
  refine cd (fun c1 => ?_) (fun c1 => ?_) (hp := rfl)
  · skip
    simp at c1
  · skip
    refine dw_skip ?_
    show DW _ _ _ _ _
    refine dw_seq ?_
    refine stp In ?_
    refine cd (fun c2 => ?_) (fun c2 => ?_) (hp := rfl)
    · skip
      simp at c2
    · skip
      refine dw_skip ?_
      show DW _ _ _ _ _
      refine dw_seq ?_
      refine stp In ?_
      refine cd (fun c3 => ?_) (fun c3 => ?_)
      · skip
        refine stp In ?_
        refine dw_ret ?_
        exact fin 0 (hr := by (try simp only [go_sem, ff]); all_goals (simp only [cmpI, cmpS, ltS]; first | (simp_all; done) | ((repeat' split) <;> first | rfl | omega)))
      · skip
        refine dw_skip ?_
        show DW _ _ _ _ _
        refine dw_seq ?_
        refine stp In ?_
        refine cd (fun c4 => ?_) (fun c4 => ?_)
        · skip
          refine stp In ?_
          refine dw_ret ?_
          exact fin 0 (hr := by (try simp only [go_sem, ff]); all_goals (simp only [cmpI, cmpS, ltS]; first | (simp_all; done) | ((repeat' split) <;> first | rfl | omega)))
        · skip
          refine dw_skip ?_
          show DW _ _ _ _ _
          refine stp In ?_
          refine dw_ret ?_
          exact fin 0 (hr := by (try simp only [go_sem, ff]); all_goals (simp only [cmpI, cmpS, ltS]; first | (simp_all; done) | ((repeat' split) <;> first | rfl | omega)))
theorem bo177 : hasBody Tryz.prog 177 = true := by kernel_rfl
theorem cmpstr_ct (x : Str) (y : Str) : PureCt Tryz.prog 177 [.v (.string (bs x)), .v (.string (bs y))] (.i (cmpS x y)) := by
  refine pure_of_dw Tryz.func177 rfl bo177 (by simp [go_sem, D.nr, nrs, nrr]) (by simp [Tryz.f177]) ?_
  unfold Tryz.f177
  simp only [init_eq]
  have ff := True.intro
  refine stp In ?_
  refine stp In ?_ (hok := by (try simp only [go_sem, ff]); all_goals (have h := nanS_ct x; simp only [bne_self_eq_false] at h; exact h))
  refine stp In ?_ (hok := by (try simp only [go_sem, ff]); all_goals (have h := nanS_ct y; simp only [bne_self_eq_false] at h; exact h))
  refine dw_seq ?_
  refine stp In ?_
  refine cd (fun c1 => ?_) (fun c1 => ?_) (hp := rfl)
  · skip
    simp at c1
  · skip
    refine dw_skip ?_
    show DW _ _ _ _ _
    refine dw_seq ?_
    refine stp In ?_
    refine cd (fun c2 => ?_) (fun c2 => ?_) (hp := rfl)
    · skip
      simp at c2
    · skip
      refine dw_skip ?_
      show DW _ _ _ _ _
      refine dw_seq ?_
      refine stp In ?_
      refine cd (fun c3 => ?_) (fun c3 => ?_)
      · skip
        refine stp In ?_
        refine dw_ret ?_
        exact fin 0 (hr := by (try simp only [go_sem, ff]); all_goals (simp only [cmpI, cmpS, ltS]; first | (simp_all; done) | ((repeat' split) <;> first | rfl | omega)))
      · skip
        refine dw_skip ?_
        show DW _ _ _ _ _
        refine dw_seq ?_
        refine stp In ?_
        refine cd (fun c4 => ?_) (fun c4 => ?_)
        · skip
          refine stp In ?_
          refine dw_ret ?_
          exact fin 0 (hr := by (try simp only [go_sem, ff]); all_goals (simp only [cmpI, cmpS, ltS]; first | (simp_all; done) | ((repeat' split) <;> first | rfl | omega)))
        · skip
          refine dw_skip ?_
          show DW _ _ _ _ _
          refine stp In ?_
          refine dw_ret ?_
          exact fin 0 (hr := by (try simp only [go_sem, ff]); all_goals (simp only [cmpI, cmpS, ltS]; first | (simp_all; done) | ((repeat' split) <;> first | rfl | omega)))
theorem bo147 : hasBody Tryz.prog 147 = true := by kernel_rfl
theorem haspre0_ct (s : Str) (p : Str) : PureCt Tryz.prog 147 [.v (.string (bs s)), .v (.string (bs p))] (.b (hasPre s p)) := by
  refine pure_of_dw Tryz.func147 rfl bo147 (by simp [go_sem, D.nr, nrs, nrr]) (by simp [Tryz.f147]) ?_
  unfold Tryz.f147
  simp only [init_eq]
  have ff := True.intro
  refine stp In ?_
  refine stp In ?_
  refine dw_ret ?_
  exact fin 0 (hr := by (try simp only [go_sem, ff]); all_goals (have e : decide ((p.length : Int) ≤ s.length) = decide (p.length ≤ s.length) := decide_eq_decide.2 (by omega); rw [hasPre, e]))
theorem bo111 : hasBody Tryz.prog 111 = true := by kernel_rfl
theorem haspre_ct (s : Str) (p : Str) : PureCt Tryz.prog 111 [.v (.string (bs s)), .v (.string (bs p))] (.b (hasPre s p)) := by
  refine pure_of_dw Tryz.func111 rfl bo111 (by simp [go_sem, D.nr, nrs, nrr]) (by simp [Tryz.f111]) ?_
  unfold Tryz.f111
  simp only [init_eq]
  have ff := True.intro
  refine stp In ?_
  refine stp In ?_ (hok := by (try simp only [go_sem, ff]); all_goals (first | exact ok0 | (apply haspre0_ct <;> omega) | (intros; apply haspre0_ct <;> omega)))
  refine dw_ret ?_
  exact fin 0 (hr := by (try simp only [go_sem, ff]); all_goals (rfl))
theorem bo151 : hasBody Tryz.prog 151 = true := by kernel_rfl
theorem iswild_ct (s : Str) : PureCt Tryz.prog 151 [.v (.string (bs s))] (.b (wildB s)) := by
  refine pure_of_dw Tryz.func151 rfl bo151 (by simp [go_sem, D.nr, nrs, nrr]) (by simp [Tryz.f151]) ?_
  unfold Tryz.f151
  simp only [init_eq]
  have ff := True.intro
  refine stp In ?_
  refine stp In ?_ (hok := by (try simp only [go_sem, ff]); all_goals (first | exact ok0 | (apply haspre_ct <;> omega) | (intros; apply haspre_ct <;> omega)))
  refine dw_ret ?_
  exact fin 0 (hr := by (try simp only [go_sem, ff]); all_goals (rw [wild_pre]))
theorem bo117 : hasBody Tryz.prog 117 = true := by kernel_rfl
theorem rwild_ct (s : Str) : PureCt Tryz.prog 117 [.v (.string (bs s))] (.b (wildB s)) := by
  refine pure_of_dw Tryz.func117 rfl bo117 (by simp [go_sem, D.nr, nrs, nrr]) (by simp [Tryz.f117]) ?_
  unfold Tryz.f117
  simp only [init_eq]
  have ff := True.intro
  refine stp In ?_
  refine stp In ?_
  refine dw_ret ?_
  exact fin 0 (hr := by (try simp only [go_sem, ff]); all_goals (rw [wildB]; congr 2; rw [Bool.eq_iff_iff]; simp only [Bool.and_eq_true, decide_eq_true_eq, beq_iff_eq]; omega))
theorem bo175 : hasBody Tryz.prog 175 = true := by kernel_rfl
theorem isfree_ct (s : Str) : PureCt Tryz.prog 175 [.v (.string (bs s))] (.b (freeB s)) := by
  rw [freeB]
  refine pure_of_dw Tryz.func175 rfl bo175 (by simp [go_sem, D.nr, nrs, nrr]) (by simp [Tryz.f175]) ?_
  unfold Tryz.f175
  simp only [init_eq]
  have ff := True.intro
  have e1 : ((s.length:Int) - 1).toNat = s.length - 1 := by omega
  have ff := And.intro @e1 ff
  refine stp In ?_
  refine dw_seq ?_
  have hin : inR (s.length : Int) 1 40 = true → (1:Int) ≤ s.length ∧ (s.length : Int) ≤ 40 := by intro h; simp only [inR, Bool.and_eq_true, decide_eq_true_eq] at h; exact h
  refine stp In ?_ (hok := by (try simp only [go_sem, ff]); all_goals (refine ⟨⟨⟨within_ct _ _ _, fun h => by have := hin h; omega⟩, fun h => ?_⟩, fun h => ?_⟩ <;> (rw [Bool.or_eq_false_iff, Bool.not_eq_false'] at h; have := hin h.1; omega)))
  refine cd (fun c1 => ?_) (fun c1 => ?_)
  · skip
    try simp only [inR, Bool.and_eq_true, Bool.and_eq_false_iff, decide_eq_true_eq, decide_eq_false_iff_not] at c1
    refine stp In ?_
    refine dw_ret ?_
    exact fin 0 (hr := by (try simp only [go_sem, ff]); all_goals ((repeat' split) <;> first | rfl | (exfalso; omega)))
  · skip
    try simp only [inR, Bool.and_eq_true, Bool.and_eq_false_iff, decide_eq_true_eq, decide_eq_false_iff_not] at c1
    refine dw_skip ?_
    show DW _ _ _ _ _
    refine dw_seq ?_
    refine stp In ?_
    refine dw_block ?_
    refine lp (α := (Nat) × Nat) [0, 23] (fun ⟨k, nx⟩ => (k ≤ s.length) ∧ (allN s.length (freeIn s) 0 = allN s.length (freeIn s) k) ∧ True) (fun ⟨k, nx⟩ => s.length - k) (fun ⟨k, nx⟩ => [(24, .i k)]) (fun ⟨k, nx⟩ => []) (fun ⟨k, nx⟩ => nx) (0, _) (hA := ⟨iv, rfl, trivial⟩) (round := ?_)
    rintro ⟨k, nx⟩ ⟨hk, hv, -⟩
    show DW _ _ _ _ { n := _, t := tab _, h := _, nx := _, e := _ }
    simp only [List.cons_append, List.nil_append]
    refine stp In ?_
    refine dw_seq ?_
    refine cd (fun c2 => ?_) (fun c2 => ?_) (hp := rfl)
    · skip
      have hk2 : k < s.length := by simpa using c2
      refine dw_skip ?_
      show DW _ _ _ _ _
      refine dw_seq ?_
      refine dw_block ?_
      refine stp In ?_
      refine stp In ?_
      refine stp In ?_ (hok := by (try simp only [go_sem, ff]); all_goals (first | done | (simp only [withinb_ct, and_true, implies_true]; done) | ((repeat' (with_reducible apply And.intro)) <;> first | exact withinb_ct _ _ _ | (intros; exact withinb_ct _ _ _) | (intros; simp_all; done))))
      refine cd (fun c3 => ?_) (fun c3 => ?_)
      · skip
        refine stp In ?_
        refine dw_ret ?_
        exact fin 0 (hr := by (try simp only [go_sem, ff]); all_goals (have h8 : freeIn s k = false := (by simp only [freeIn, alnum, Bool.or_eq_false_iff, Bool.and_eq_false_iff, decide_eq_false_iff_not]; (try simp only [inR, Bool.and_eq_true, Bool.and_eq_false_iff, decide_eq_true_eq, decide_eq_false_iff_not] at c3); omega); rw [hv, allN_eq, if_pos hk2, h8]; (repeat' split) <;> rfl))
      · skip
        refine dw_skip ?_
        show DW _ _ _ _ _
        refine rgn In ?_
        show ∃ _, _
        exact rnd (k + 1, _) (h1 := ⟨iv, (by (try dsimp only); have h8 : freeIn s k = true := (by simp only [freeIn, alnum, Bool.or_eq_true, Bool.and_eq_true, decide_eq_true_eq]; (try simp only [inR, Bool.and_eq_true, Bool.and_eq_false_iff, decide_eq_true_eq, decide_eq_false_iff_not] at c3); omega); rw [hv, allN_eq, if_pos hk2, h8]; rfl), trivial⟩)
    · skip
      refine dw_exit ?_
      show DW _ _ _ _ _
      refine stp In ?_
      refine dw_ret ?_
      exact fin 0 (hr := by (try simp only [go_sem, ff]); all_goals (rw [hv, allN_eq, if_neg (by omega), if_neg (by omega), if_neg (by omega), if_neg (by omega), if_neg (by omega)]))
theorem bo164 : hasBody Tryz.prog 164 = true := by kernel_rfl
theorem rtext_ct (s : Str) : PureCt Tryz.prog 164 [.v (.string (bs s))] (.b (freeB s)) := by
  rw [freeB]
  refine pure_of_dw Tryz.func164 rfl bo164 (by simp [go_sem, D.nr, nrs, nrr]) (by simp [Tryz.f164]) ?_
  unfold Tryz.f164
  simp only [init_eq]
  have ff := True.intro
  have e1 : ((s.length:Int) - 1).toNat = s.length - 1 := by omega
  have ff := And.intro @e1 ff
  refine stp In ?_
  refine stp In ?_
  refine dw_seq ?_
  refine stp In ?_
  refine cd (fun c1 => ?_) (fun c1 => ?_)
  · skip
    refine stp In ?_
    refine dw_ret ?_
    exact fin 0 (hr := by (try simp only [go_sem, ff]); all_goals ((repeat' split) <;> first | rfl | (exfalso; omega)))
  · skip
    refine dw_skip ?_
    show DW _ _ _ _ _
    refine dw_seq ?_
    refine stp In ?_
    refine dw_block ?_
    refine lp (α := (Nat) × Nat) [0, 3] (fun ⟨k, nx⟩ => (k ≤ s.length) ∧ (allN s.length (freeIn s) 0 = allN s.length (freeIn s) k) ∧ True) (fun ⟨k, nx⟩ => s.length - k) (fun ⟨k, nx⟩ => [(4, .i k)]) (fun ⟨k, nx⟩ => []) (fun ⟨k, nx⟩ => nx) (0, _) (hA := ⟨iv, rfl, trivial⟩) (round := ?_)
    rintro ⟨k, nx⟩ ⟨hk, hv, -⟩
    show DW _ _ _ _ { n := _, t := tab _, h := _, nx := _, e := _ }
    simp only [List.cons_append, List.nil_append]
    refine dw_seq ?_
    refine stp In ?_
    refine cd (fun c2 => ?_) (fun c2 => ?_) (hp := rfl)
    · skip
      have hk2 : k < s.length := by simpa using c2
      refine dw_skip ?_
      show DW _ _ _ _ _
      refine dw_seq ?_
      refine dw_block ?_
      refine stp In ?_
      refine stp In ?_
      refine cd (fun c3 => ?_) (fun c3 => ?_)
      · skip
        refine stp In ?_
        refine dw_ret ?_
        exact fin 0 (hr := by (try simp only [go_sem, ff]); all_goals (have h8 : freeIn s k = false := (by simp only [freeIn, alnum, Bool.or_eq_false_iff, Bool.and_eq_false_iff, decide_eq_false_iff_not]; (try simp only [inR, Bool.and_eq_true, Bool.and_eq_false_iff, decide_eq_true_eq, decide_eq_false_iff_not] at c3); omega); rw [hv, allN_eq, if_pos hk2, h8]; (repeat' split) <;> rfl))
      · skip
        refine dw_skip ?_
        show DW _ _ _ _ _
        refine rgn In ?_
        show ∃ _, _
        exact rnd (k + 1, _) (h1 := ⟨iv, (by (try dsimp only); have h8 : freeIn s k = true := (by simp only [freeIn, alnum, Bool.or_eq_true, Bool.and_eq_true, decide_eq_true_eq]; (try simp only [inR, Bool.and_eq_true, Bool.and_eq_false_iff, decide_eq_true_eq, decide_eq_false_iff_not] at c3); omega); rw [hv, allN_eq, if_pos hk2, h8]; rfl), trivial⟩)
    · skip
      refine dw_exit ?_
      show DW _ _ _ _ _
      refine stp In ?_
      refine dw_ret ?_
      exact fin 0 (hr := by (try simp only [go_sem, ff]); all_goals (rw [hv, allN_eq, if_neg (by omega), if_neg (by omega), if_neg (by omega), if_neg (by omega), if_neg (by omega)]))
theorem bo130 : hasBody Tryz.prog 130 = true := by kernel_rfl
theorem rless_ct (a : Dat) (b : Dat) : PureCt Tryz.prog 130 [.agg a.d, .agg b.d] (.b (less a b)) := by
  rw [less]
  refine pure_of_dw Tryz.func130 rfl bo130 (by simp [go_sem, D.nr, nrs, nrr]) (by simp [Tryz.f130]) ?_
  unfold Tryz.f130
  simp only [init_eq]
  have ff := True.intro
  refine stp In ?_
  refine dw_seq ?_
  refine stp In ?_
  refine cd (fun c1 => ?_) (fun c1 => ?_) (hp := rfl) (hq := rfl)
  · skip
    refine stp In ?_
    refine dw_ret ?_
    exact fin 0 (hr := by (try simp only [go_sem, ff]); all_goals (rw [if_pos c1]; rfl))
  · skip
    refine dw_skip ?_
    show DW _ _ _ _ _
    refine dw_seq ?_
    refine stp In ?_
    refine cd (fun c2 => ?_) (fun c2 => ?_) (hp := rfl) (hq := rfl)
    · skip
      refine stp In ?_
      refine dw_ret ?_
      exact fin 0 (hr := by (try simp only [go_sem, ff]); all_goals (rw [if_neg (by rw [c1]; simp), if_pos c2]))
    · skip
      refine dw_skip ?_
      show DW _ _ _ _ _
      refine stp In ?_
      refine dw_ret ?_
      exact fin 0 (hr := by (try simp only [go_sem, ff]); all_goals (rw [if_neg (by rw [c1]; simp), if_neg (by rw [c2]; simp)]))

end Go.Proofs.YtipkfnkmdeopeaaGreatDoor
namespace Go.Proofs.YtipkfnkmdeopeaaGreatDoor
open Go.DL Go.Str Go.Rec
set_option maxRecDepth 10000
set_option linter.unusedSimpArgs false
set_option linter.unusedVariables false
theorem bo176 : hasBody Tryz.prog 176 = true := by kernel_rfl
theorem cmpor_ct (l : List Int) : PureCt Tryz.prog 176 [.list false (l.map iR)] (.i (orFrom l 0)) := by
  refine pure_of_dw Tryz.func176 rfl bo176 (by simp [go_sem, D.nr, nrs, nrr]) (by simp [Tryz.f176]) ?_
  unfold Tryz.f176
  simp only [init_eq]
  have ff := True.intro
  refine dw_len 0 rfl fun hlen => ?_
  simp only [List.length_map, maxLen] at hlen
  refine stp In ?_
  refine stp In ?_
  refine dw_seq ?_
  refine stp In ?_
  refine dw_block ?_
  refine lp (α := (Nat) × Nat) [3, 6, 7] (fun ⟨k, nx⟩ => (k ≤ l.length) ∧ (orFrom l 0 = orFrom l k) ∧ True) (fun ⟨k, nx⟩ => l.length - k) (fun ⟨k, nx⟩ => [(8, .i k)]) (fun ⟨k, nx⟩ => []) (fun ⟨k, nx⟩ => nx) (0, _) (hA := ⟨iv, rfl, trivial⟩) (round := ?_)
  rintro ⟨k, nx⟩ ⟨hk, hv, -⟩
  show DW _ _ _ _ { n := _, t := tab _, h := _, nx := _, e := _ }
  simp only [List.cons_append, List.nil_append]
  refine stp In ?_
  refine dw_seq ?_
  refine cd (fun c1 => ?_) (fun c1 => ?_) (hp := rfl)
  · skip
    have hk2 : k < l.length := by simpa using c1
    have ff := And.intro (getD_iR hk2) ff
    refine dw_skip ?_
    show DW _ _ _ _ _
    refine dw_seq ?_
    refine dw_block ?_
    refine stp In ?_
    refine stp In ?_
    refine cd (fun c2 => ?_) (fun c2 => ?_) (hp := rfl) (hq := rfl)
    · skip
      refine stp In ?_
      refine dw_ret ?_
      exact fin 0 (hr := by (try simp only [go_sem, ff]); all_goals (rw [hv, orFrom_eq, if_pos hk2, if_pos c2]))
    · skip
      refine dw_skip ?_
      show DW _ _ _ _ _
      refine rgn In ?_
      show ∃ _, _
      exact rnd (k + 1, _) (h1 := ⟨iv, (by (try dsimp only); rw [hv, orFrom_eq, if_pos hk2, if_neg (by rw [c2]; simp)]), trivial⟩)
  · skip
    refine dw_exit ?_
    show DW _ _ _ _ _
    refine stp In ?_
    refine dw_ret ?_
    exact fin 0 (hr := by (try simp only [go_sem, ff]); all_goals (rw [hv, orFrom_eq, if_neg (by omega)]))
theorem bo153 : hasBody Tryz.prog 153 = true := by kernel_rfl
theorem cmpdata_ct (a : Dat) (b : Dat) : PureCt Tryz.prog 153 [.agg a.d, .agg b.d] (.i (datC a b)) := by
  refine pure_of_dw Tryz.func153 rfl bo153 (by simp [go_sem, D.nr, nrs, nrr]) (by simp [Tryz.f153]) ?_
  unfold Tryz.f153
  simp only [init_eq]
  have ff := True.intro
  refine stp In ?_
  refine stp In ?_ (hok := by (try simp only [go_sem, ff]); all_goals (first | done | ((repeat' (with_reducible apply And.intro)) <;> first | exact cmpstr_ct _ _ | exact cmpint_ct _ _ | exact cmpor_ct [_, _, _] | omega)))
  refine dw_ret ?_
  exact fin 0 (hr := by (try simp only [go_sem, ff]); all_goals (rw [← orFrom_dat]; rfl))
theorem bo128 : hasBody Tryz.prog 128 = true := by kernel_rfl
theorem rsingle_ct (k : Int) : PureCt Tryz.prog 128 [.i k] (.b (singleB k)) := by
  refine pure_of_dw Tryz.func128 rfl bo128 (by simp [go_sem, D.nr, nrs, nrr]) (by simp [Tryz.f128]) ?_
  unfold Tryz.f128
  simp only [init_eq]
  have ff := True.intro
  refine stp In ?_
  refine stp In ?_
  refine dw_ret ?_
  exact fin 0 (hr := by (try simp only [go_sem, ff]); all_goals (first | rfl | (unfold singleB; simp)))
theorem bo152 : hasBody Tryz.prog 152 = true := by kernel_rfl
theorem vdatum_ct (r : Rule) (d : Dat) (hr : r.even = true → 0 ≤ r.n0) : PureCt Tryz.prog 152 [.agg r.d, .agg d.d] (.b (datOk r d)) := by
  refine pure_of_dw Tryz.func152 rfl bo152 (by simp [go_sem, D.nr, nrs, nrr]) (by simp [Tryz.f152]) ?_
  unfold Tryz.f152
  simp only [init_eq]
  have ff := True.intro
  refine stp In ?_
  refine dw_seq ?_
  refine stp In ?_ (hok := by (try simp only [go_sem, ff]); all_goals (first | done | ((repeat' (with_reducible apply And.intro)) <;> first | exact within_ct _ _ _ | (intros; exact within_ct _ _ _) | (intro h; simp only [Bool.and_eq_true, Bool.not_eq_true', Bool.or_eq_false_iff, Bool.not_eq_false', inR_iff] at h; have := hr h.2; omega) | (intros; simp_all; done))))
  refine cd (fun c1 => ?_) (fun c1 => ?_)
  · skip
    refine stp In ?_
    refine dw_ret ?_
    exact fin 0 (hr := by (try simp only [go_sem, ff]); all_goals (rcases c1 with (h | h) | ⟨h1, h2⟩ <;> simp [datOk, *]))
  · skip
    refine dw_skip ?_
    show DW _ _ _ _ _
    refine dw_seq ?_
    refine stp In ?_
    refine dw_block ?_
    refine stp In ?_
    refine cd (fun c2 => ?_) (fun c2 => ?_)
    · skip
      refine stp In ?_ (hok := by (try simp only [go_sem, ff]); all_goals (first | done | ((repeat' (with_reducible apply And.intro)) <;> first | exact nvalid_ct _ | (intros; exact nvalid_ct _) | exact iswild_ct _ | (intros; exact iswild_ct _))))
      refine dw_ret ?_
      exact fin 0 (hr := by (try simp only [go_sem, ff]); all_goals (obtain ⟨⟨h1, h2⟩, h3⟩ := c1; rcases h3 with h3 | h3 <;> simp [datOk, textOk, *]))
    · skip
      refine stp In ?_
      refine cd (fun c3 => ?_) (fun c3 => ?_)
      · skip
        refine stp In ?_ (hok := by (try simp only [go_sem, ff]); all_goals (exact nvalid_ct _))
        refine dw_ret ?_
        exact fin 0 (hr := by (try simp only [go_sem, ff]); all_goals (obtain ⟨⟨h1, h2⟩, h3⟩ := c1; rcases h3 with h3 | h3 <;> simp [datOk, textOk, *]))
      · skip
        refine stp In ?_
        refine cd (fun c4 => ?_) (fun c4 => ?_)
        · skip
          refine stp In ?_ (hok := by (try simp only [go_sem, ff]); all_goals (exact isfree_ct _))
          refine dw_ret ?_
          exact fin 0 (hr := by (try simp only [go_sem, ff]); all_goals (obtain ⟨⟨h1, h2⟩, h3⟩ := c1; rcases h3 with h3 | h3 <;> simp [datOk, textOk, *]))
        · skip
          refine dw_skip ?_
          show DW _ _ _ _ _
          refine stp In ?_
          refine dw_ret ?_
          exact fin 0 (hr := by (try simp only [go_sem, ff]); all_goals (obtain ⟨⟨h1, h2⟩, h3⟩ := c1; rcases h3 with h3 | h3 <;> simp [datOk, textOk, *] <;> cases d.t <;> rfl))
theorem bo129 : hasBody Tryz.prog 129 = true := by kernel_rfl
theorem rdatum_ct (k : Int) (d : Dat) : PureCt Tryz.prog 129 [.i k, .agg d.d] (.b (rDatOk k d)) := by
  refine pure_of_dw Tryz.func129 rfl bo129 (by simp [go_sem, D.nr, nrs, nrr]) (by simp [Tryz.f129]) ?_
  unfold Tryz.f129
  simp only [init_eq]
  have ff := True.intro
  refine stp In ?_
  refine dw_seq ?_
  refine stp In ?_
  refine dw_block ?_
  refine stp In ?_
  refine cd (fun c1 => ?_) (fun c1 => ?_)
  · skip
    refine stp In ?_ (hok := by (try simp only [go_sem, ff]); all_goals (first | done | ((repeat' (with_reducible apply And.intro)) <;> first | exact rwithin_ct _ _ _ | (intros; exact rwithin_ct _ _ _) | exact rnvalid_ct _ | (intros; exact rnvalid_ct _) | exact rwild_ct _ | (intros; exact rwild_ct _) | (intro h; simp only [Bool.and_eq_true, inR_iff] at h; omega) | omega)))
    refine dw_ret ?_
    exact fin 0 (hr := by (try simp only [go_sem, ff]); all_goals (simp [rDatOk, *]))
  · skip
    refine dw_seq ?_
    refine stp In ?_
    refine cd (fun c2 => ?_) (fun c2 => ?_)
    · skip
      refine dw_skip ?_
      show DW _ _ _ _ _
      refine cd (fun c3 => ?_) (fun c3 => ?_)
      · skip
        refine stp In ?_ (hok := by (try simp only [go_sem, ff]); all_goals (first | done | ((repeat' (with_reducible apply And.intro)) <;> first | exact rwithin_ct _ _ _ | (intros; exact rwithin_ct _ _ _) | exact rnvalid_ct _ | (intros; exact rnvalid_ct _) | exact rwild_ct _ | (intros; exact rwild_ct _) | (intro h; simp only [Bool.and_eq_true, inR_iff] at h; omega) | omega)))
        refine dw_ret ?_
        exact fin 0 (hr := by (try simp only [go_sem, ff]); all_goals (simp [rDatOk, *]))
      · skip
        exact absurd c2 c3
    · skip
      refine rgn In ?_
      show DW _ _ _ _ _
      refine cd (fun c4 => ?_) (fun c4 => ?_)
      · skip
        refine stp In ?_ (hok := by (try simp only [go_sem, ff]); all_goals (first | done | ((repeat' (with_reducible apply And.intro)) <;> first | exact rwithin_ct _ _ _ | (intros; exact rwithin_ct _ _ _) | exact rnvalid_ct _ | (intros; exact rnvalid_ct _) | exact rwild_ct _ | (intros; exact rwild_ct _) | (intro h; simp only [Bool.and_eq_true, inR_iff] at h; omega) | omega)))
        refine dw_ret ?_
        exact fin 0 (hr := by (try simp only [go_sem, ff]); all_goals (simp [rDatOk, *]))
      · skip
        refine stp In ?_
        refine cd (fun c5 => ?_) (fun c5 => ?_)
        · skip
          refine stp In ?_ (hok := by (try simp only [go_sem, ff]); all_goals (first | done | ((repeat' (with_reducible apply And.intro)) <;> first | exact rwithin_ct _ _ _ | (intros; exact rwithin_ct _ _ _) | exact rnvalid_ct _ | (intros; exact rnvalid_ct _) | exact rwild_ct _ | (intros; exact rwild_ct _) | (intro h; simp only [Bool.and_eq_true, inR_iff] at h; omega) | omega)))
          refine dw_ret ?_
          exact fin 0 (hr := by (try simp only [go_sem, ff]); all_goals (simp [rDatOk, *]))
        · skip
          refine stp In ?_
          refine cd (fun c6 => ?_) (fun c6 => ?_)
          · skip
            refine stp In ?_ (hok := by (try simp only [go_sem, ff]); all_goals (first | done | exact rtext_ct _))
            refine dw_ret ?_
            exact fin 0 (hr := by (try simp only [go_sem, ff]); all_goals (simp [rDatOk, *]))
          · skip
            refine dw_seq ?_
            refine stp In ?_
            refine cd (fun c7 => ?_) (fun c7 => ?_)
            · skip
              refine dw_skip ?_
              show DW _ _ _ _ _
              refine cd (fun c8 => ?_) (fun c8 => ?_)
              · skip
                refine stp In ?_ (hok := by (try simp only [go_sem, ff]); all_goals (first | done | ((repeat' (with_reducible apply And.intro)) <;> first | exact rwithin_ct _ _ _ | (intros; exact rwithin_ct _ _ _) | exact rnvalid_ct _ | (intros; exact rnvalid_ct _) | exact rwild_ct _ | (intros; exact rwild_ct _) | (intro h; simp only [Bool.and_eq_true, inR_iff] at h; omega) | omega)))
                refine dw_ret ?_
                exact fin 0 (hr := by (try simp only [go_sem, ff]); all_goals (simp [rDatOk, *]))
              · skip
                exact absurd c7 c8
            · skip
              refine rgn In ?_
              show DW _ _ _ _ _
              refine cd (fun c9 => ?_) (fun c9 => ?_)
              · skip
                refine stp In ?_ (hok := by (try simp only [go_sem, ff]); all_goals (first | done | ((repeat' (with_reducible apply And.intro)) <;> first | exact rwithin_ct _ _ _ | (intros; exact rwithin_ct _ _ _) | exact rnvalid_ct _ | (intros; exact rnvalid_ct _) | exact rwild_ct _ | (intros; exact rwild_ct _) | (intro h; simp only [Bool.and_eq_true, inR_iff] at h; omega) | omega)))
                refine dw_ret ?_
                exact fin 0 (hr := by (try simp only [go_sem, ff]); all_goals (simp [rDatOk, *]))
              · skip
                refine stp In ?_
                refine cd (fun c10 => ?_) (fun c10 => ?_)
                · skip
                  refine stp In ?_ (hok := by (try simp only [go_sem, ff]); all_goals (first | done | ((repeat' (with_reducible apply And.intro)) <;> first | exact rwithin_ct _ _ _ | (intros; exact rwithin_ct _ _ _) | exact rnvalid_ct _ | (intros; exact rnvalid_ct _) | exact rwild_ct _ | (intros; exact rwild_ct _) | (intro h; simp only [Bool.and_eq_true, inR_iff] at h; omega) | omega)))
                  refine dw_ret ?_
                  exact fin 0 (hr := by (try simp only [go_sem, ff]); all_goals (simp [rDatOk, *]))
                · skip
                  refine dw_skip ?_
                  show DW _ _ _ _ _
                  refine stp In ?_
                  refine dw_ret ?_
                  exact fin 0 (hr := by (try simp only [go_sem, ff]); all_goals (simp [rDatOk, *]))

end Go.Proofs.YtipkfnkmdeopeaaGreatDoor
namespace Go.Proofs.YtipkfnkmdeopeaaGreatDoor
open Go.DL Go.Str Go.Rec Go.Cmp
set_option maxRecDepth 10000
set_option linter.unusedSimpArgs false
set_option linter.unusedVariables false
theorem rule_ldc {k : Nat} (h1 : 1 ≤ k) (h8 : k ≤ 8) : ∃ rest : List D, ∀ hh, ldc Tryz.prog (.v (.pointer (some ⟨0, k * 8, none⟩))) hh = (ruleAt k).d ++ rest := by
  refine ⟨(rulesTab.drop (k * 8 + 8)).map D.v, fun hh => ?_⟩
  have : k = 1 ∨ k = 2 ∨ k = 3 ∨ k = 4 ∨ k = 5 ∨ k = 6 ∨ k = 7 ∨ k = 8 := by omega
  rcases this with e | e | e | e | e | e | e | e <;> subst e <;> rfl
theorem bo113 : hasBody Tryz.prog 113 = true := by kernel_rfl
theorem rvalid_ct (s : RSet) : PureCt Tryz.prog 113 [.agg s.d] (.b (setOk s)) := by
  refine pure_of_dw Tryz.func113 rfl bo113 (by simp [go_sem, D.nr, nrs, nrr]) (by simp [Tryz.f113]) ?_
  unfold Tryz.f113
  simp only [init_eq]
  have ff := True.intro
  refine stp In ?_
  refine dw_seq ?_
  refine stp In ?_ (hok := by (try simp only [go_sem, ff]); all_goals (first | done | ((repeat' (with_reducible apply And.intro)) <;> first | exact nvalid_ct _ | (intros; exact nvalid_ct _) | exact within_ct _ _ _ | (intros; exact within_ct _ _ _) | (intros; simp_all; done) | omega)))
  refine cd (fun c1 => ?_) (fun c1 => ?_)
  · skip
    refine stp In ?_
    refine dw_ret ?_
    exact fin 0 (hr := by (try simp only [go_sem, ff]); all_goals (rcases c1 with (h | h) | h <;> simp [setOk, h]))
  · skip
    refine dw_skip ?_
    show DW _ _ _ _ _
    refine dw_seq ?_
    refine stp In ?_ (hok := by (try simp only [go_sem, ff]); all_goals (exact within_ct _ _ _))
    refine cd (fun c2 => ?_) (fun c2 => ?_)
    · skip
      refine stp In ?_
      refine dw_ret ?_
      exact fin 0 (hr := by (try simp only [go_sem, ff]); all_goals (simp [setOk, c2]))
    · skip
      have hty := inR_iff.1 c1.1.2
      obtain ⟨rest, hld⟩ := rule_ldc (k := s.ty.toNat) (by omega) (by omega)
      have ff := And.intro @hld ff
      refine dw_skip ?_
      show DW _ _ _ _ _
      refine stp In ?_ (hok := by (try simp only [go_sem, ff]); all_goals (first | done | omega | ((repeat' (with_reducible apply And.intro)) <;> first | omega | rfl)))
      refine dw_seq ?_
      refine stp In ?_ (hok := by (try simp only [go_sem, ff]); all_goals (first | done | ((repeat' (with_reducible apply And.intro)) <;> first | exact iswild_ct _ | (intros; exact iswild_ct _) | (intros; simp_all; done) | (intros; by_cases hq : (ruleAt s.ty.toNat).single = true <;> simp_all))))
      refine cd (fun c3 => ?_) (fun c3 => ?_)
      · skip
        refine stp In ?_
        refine dw_ret ?_
        exact fin 0 (hr := by (try simp only [go_sem, ff]); all_goals (rcases c3 with ⟨h1, h2⟩ | ⟨h1, h2⟩ <;> simp [setOk, h1, h2]))
      · skip
        refine dw_skip ?_
        show DW _ _ _ _ _
        refine dw_seq ?_
        refine stp In ?_
        refine dw_block ?_
        refine lp (α := (Nat) × Nat) [1, 3, 50, 51] (fun ⟨k, nx⟩ => (k ≤ s.data.length) ∧ (27 < nx) ∧ (allN s.data.length (datAt s.ty.toNat s.data) 0 = allN s.data.length (datAt s.ty.toNat s.data) k) ∧ True) (fun ⟨k, nx⟩ => s.data.length - k) (fun ⟨k, nx⟩ => [(52, .i k)]) (fun ⟨k, nx⟩ => [(0, ⟨83, [s.d]⟩), (27, ⟨166, [(ruleAt s.ty.toNat).d]⟩)]) (fun ⟨k, nx⟩ => nx) (0, _) (hA := ⟨iv, iv, rfl, trivial⟩) (round := ?_)
        rintro ⟨k, nx⟩ ⟨hk, hx, hv, -⟩
        show DW _ _ _ _ { n := _, t := tab _, h := _, nx := _, e := _ }
        simp only [List.cons_append, List.nil_append]
        have n0 : 0 < nx := by omega
        have ff := And.intro @hx (And.intro @n0 ff)
        refine stp In ?_
        refine dw_seq ?_
        refine cd (fun c4 => ?_) (fun c4 => ?_) (hp := rfl)
        · skip
          have hk2 : k < s.data.length := by simpa using c4
          have ff := And.intro (getD_dat hk2) ff
          refine dw_skip ?_
          show DW _ _ _ _ _
          refine dw_seq ?_
          refine dw_block ?_
          refine stp In ?_
          have hl8 := inR_iff.1 c2
          have e1 : ((k:Int) - 1).toNat = k - 1 := by omega
          have hk1 : k - 1 < s.data.length := by omega
          have ff := And.intro @e1 (And.intro (getD_dat hk1) ff)
          refine stp In ?_ (hok := by (try simp only [go_sem, ff]); all_goals (first | done | ((repeat' (with_reducible apply And.intro)) <;> first | exact vdatum_ct _ _ (rule_even _) | (intros; exact vdatum_ct _ _ (rule_even _)) | exact cmpdata_ct _ _ | (intros; exact cmpdata_ct _ _) | (intros; simp_all; done) | (intro h; simp only [Bool.and_eq_true, decide_eq_true_eq] at h; have := h.2; omega) | skip)))
          refine cd (fun c5 => ?_) (fun c5 => ?_)
          · skip
            refine stp In ?_
            refine dw_ret ?_
            exact fin 0 (hr := by (try simp only [go_sem, ff]); all_goals (rw [set_rest c1 c2 c3, hv, allN_eq, if_pos hk2, dat_no c5]; rfl))
          · skip
            refine dw_skip ?_
            show DW _ _ _ _ _
            refine rgn In ?_
            show ∃ _, _
            exact rnd (k + 1, _) (h1 := ⟨iv, iv, (by (try dsimp only); rw [hv, allN_eq, if_pos hk2, dat_yes c5]; rfl), trivial⟩)
        · skip
          refine dw_exit ?_
          show DW _ _ _ _ _
          refine stp In ?_
          refine dw_ret ?_
          exact fin 0 (hr := by (try simp only [go_sem, ff]); all_goals (rw [set_rest c1 c2 c3, hv, allN_eq, if_neg (by omega)]))

end Go.Proofs.YtipkfnkmdeopeaaGreatDoor
namespace Go.Proofs.YtipkfnkmdeopeaaGreatDoor
open Go.DL Go.Str Go.Rec Go.Cmp
set_option maxRecDepth 10000
set_option linter.unusedSimpArgs false
set_option linter.unusedVariables false
theorem bo89 : hasBody Tryz.prog 89 = true := by kernel_rfl
theorem rrvalid_ct (s : RSet) : PureCt Tryz.prog 89 [.agg s.d] (.b (setOk s)) := by
  refine pure_of_dw Tryz.func89 rfl bo89 (by simp [go_sem, D.nr, nrs, nrr]) (by simp [Tryz.f89]) ?_
  unfold Tryz.f89
  simp only [init_eq]
  have ff := True.intro
  refine stp In ?_
  refine stp In ?_
  refine dw_seq ?_
  refine stp In ?_ (hok := by (try simp only [go_sem, ff]); all_goals (first | done | ((repeat' (with_reducible apply And.intro)) <;> first | exact rnvalid_ct _ | (intros; exact rnvalid_ct _) | exact rwithin_ct _ _ _ | (intros; exact rwithin_ct _ _ _) | exact rsingle_ct _ | (intros; exact rsingle_ct _) | (intros; simp_all; done) | skip)))
  refine cd (fun c1 => ?_) (fun c1 => ?_)
  · skip
    refine stp In ?_
    refine dw_ret ?_
    exact fin 0 (hr := by (try simp only [go_sem, ff]); all_goals (rw [set_no_r c1]))
  · skip
    refine dw_skip ?_
    show DW _ _ _ _ _
    refine dw_seq ?_
    refine stp In ?_ (hok := by (try simp only [go_sem, ff]); all_goals (first | done | ((repeat' (with_reducible apply And.intro)) <;> first | exact rwild_ct _ | (intros; exact rwild_ct _) | (intros; simp_all; done) | skip)))
    refine cd (fun c2 => ?_) (fun c2 => ?_) (hp := rfl) (hq := rfl)
    · skip
      rw [wild4 _ c1.1.1.1.2] at c2
      try simp only [decide_eq_true_eq, decide_eq_false_iff_not, Bool.or_eq_true, Bool.and_eq_true, Bool.or_eq_false_iff, Bool.not_eq_true', Bool.not_eq_false', Bool.and_eq_false_iff, beq_iff_eq, beq_eq_false_iff_ne, bne_iff_ne, bne_eq_false_iff_eq, ne_eq] at c2
      refine stp In ?_
      refine dw_ret ?_
      exact fin 0 (hr := by (try simp only [go_sem, ff]); all_goals (rw [set_no_w c2]))
    · skip
      rw [wild4 _ c1.1.1.1.2] at c2
      try simp only [decide_eq_true_eq, decide_eq_false_iff_not, Bool.or_eq_true, Bool.and_eq_true, Bool.or_eq_false_iff, Bool.not_eq_true', Bool.not_eq_false', Bool.and_eq_false_iff, beq_iff_eq, beq_eq_false_iff_ne, bne_iff_ne, bne_eq_false_iff_eq, ne_eq] at c2
      refine dw_skip ?_
      show DW _ _ _ _ _
      refine dw_seq ?_
      refine stp In ?_
      refine dw_block ?_
      refine lp (α := (Nat) × Nat) [1, 3] (fun ⟨k, nx⟩ => (k ≤ s.data.length) ∧ (0 < nx) ∧ (allN s.data.length (datAt s.ty.toNat s.data) 0 = allN s.data.length (datAt s.ty.toNat s.data) k) ∧ True) (fun ⟨k, nx⟩ => s.data.length - k) (fun ⟨k, nx⟩ => [(4, .i k)]) (fun ⟨k, nx⟩ => [(0, ⟨83, [s.d]⟩)]) (fun ⟨k, nx⟩ => nx) (0, _) (hA := ⟨iv, iv, rfl, trivial⟩) (round := ?_)
      rintro ⟨k, nx⟩ ⟨hk, hx, hv, -⟩
      show DW _ _ _ _ { n := _, t := tab _, h := _, nx := _, e := _ }
      simp only [List.cons_append, List.nil_append]
      have ff := And.intro @hx ff
      refine dw_seq ?_
      refine stp In ?_
      refine cd (fun c3 => ?_) (fun c3 => ?_) (hp := rfl)
      · skip
        have hk2 : k < s.data.length := by simpa using c3
        have ff := And.intro (getD_dat hk2) ff
        refine dw_skip ?_
        show DW _ _ _ _ _
        refine dw_seq ?_
        refine dw_block ?_
        have hl8 := inR_iff.1 c1.1.2
        have e1 : ((k:Int) - 1).toNat = k - 1 := by omega
        have hk1 : k - 1 < s.data.length := by omega
        have ff := And.intro @e1 (And.intro (getD_dat hk1) ff)
        refine stp In ?_ (hok := by (try simp only [go_sem, ff]); all_goals (first | done | ((repeat' (with_reducible apply And.intro)) <;> first | exact rdatum_ct _ _ | (intros; exact rdatum_ct _ _) | exact rless_ct _ _ | (intros; exact rless_ct _ _) | (intros; simp_all; done) | (intro h; simp only [Bool.and_eq_true, decide_eq_true_eq] at h; have := h.2; omega) | skip)))
        refine cd (fun c4 => ?_) (fun c4 => ?_)
        · skip
          refine stp In ?_
          refine dw_ret ?_
          exact fin 0 (hr := by (try simp only [go_sem, ff]); all_goals (rw [set_rest_r c1 c2, hv, allN_eq, if_pos hk2, dat_no_r c1.1.1.1.2 c4]; rfl))
        · skip
          refine dw_skip ?_
          show DW _ _ _ _ _
          refine rgn In ?_
          show ∃ _, _
          exact rnd (k + 1, _) (h1 := ⟨iv, iv, (by (try dsimp only); rw [hv, allN_eq, if_pos hk2, dat_yes_r c1.1.1.1.2 c4]; rfl), trivial⟩)
      · skip
        refine dw_exit ?_
        show DW _ _ _ _ _
        refine stp In ?_
        refine dw_ret ?_
        exact fin 0 (hr := by (try simp only [go_sem, ff]); all_goals (rw [set_rest_r c1 c2, hv, allN_eq, if_neg (by omega)]))
theorem bo91 : hasBody Tryz.prog 91 = true := by kernel_rfl
theorem rord02_ct (a : RSet) (b : RSet) : PureCt Tryz.prog 91 [.agg a.d, .agg b.d] (.i (rOrd a b)) := by
  refine pure_of_dw Tryz.func91 rfl bo91 (by simp [go_sem, D.nr, nrs, nrr]) (by simp [Tryz.f91]) ?_
  unfold Tryz.f91
  simp only [init_eq]
  have ff := True.intro
  refine stp In ?_
  refine stp In ?_ (hok := by (try simp only [go_sem, ff]); all_goals (exact rncompare_ct _ _))
  refine dw_seq ?_
  refine stp In ?_
  refine cd (fun c1 => ?_) (fun c1 => ?_)
  · skip
    refine stp In ?_
    refine dw_ret ?_
    exact fin 0 (hr := by (try simp only [go_sem, ff]); all_goals (simp only [rOrd, thenC_eq, nmC, Go.Rec.cmpI]; simp_all <;> (repeat' split) <;> omega))
  · skip
    refine dw_skip ?_
    show DW _ _ _ _ _
    refine dw_seq ?_
    refine stp In ?_
    refine cd (fun c2 => ?_) (fun c2 => ?_)
    · skip
      refine stp In ?_
      refine dw_ret ?_
      exact fin 0 (hr := by (try simp only [go_sem, ff]); all_goals (simp only [rOrd, thenC_eq, nmC, Go.Rec.cmpI]; simp_all <;> (repeat' split) <;> omega))
    · skip
      refine dw_skip ?_
      show DW _ _ _ _ _
      refine dw_seq ?_
      refine stp In ?_
      refine cd (fun c3 => ?_) (fun c3 => ?_)
      · skip
        refine stp In ?_
        refine dw_ret ?_
        exact fin 0 (hr := by (try simp only [go_sem, ff]); all_goals (simp only [rOrd, thenC_eq, nmC, Go.Rec.cmpI]; simp_all <;> (repeat' split) <;> omega))
      · skip
        refine dw_skip ?_
        show DW _ _ _ _ _
        refine stp In ?_
        refine dw_ret ?_
        exact fin 0 (hr := by (try simp only [go_sem, ff]); all_goals (simp only [rOrd, thenC_eq, nmC, Go.Rec.cmpI]; simp_all <;> (repeat' split) <;> omega))
theorem bo106 : hasBody Tryz.prog 106 = true := by kernel_rfl
theorem rsame02_ct (a : RSet) (b : RSet) (ha : a.data.length ≤ 100000) : PureCt Tryz.prog 106 [.agg a.d, .agg b.d] (.b (sameB a b)) := by
  refine pure_of_dw Tryz.func106 rfl bo106 (by simp [go_sem, D.nr, nrs, nrr]) (by simp [Tryz.f106]) ?_
  unfold Tryz.f106
  simp only [init_eq]
  have ff := True.intro
  refine stp In ?_
  refine dw_seq ?_
  refine stp In ?_
  refine cd (fun c1 => ?_) (fun c1 => ?_)
  · skip
    refine stp In ?_
    refine dw_ret ?_
    exact fin 0 (hr := by (try simp only [go_sem, ff]); all_goals (rw [sameB_no c1]))
  · skip
    refine dw_skip ?_
    show DW _ _ _ _ _
    refine dw_seq ?_
    refine stp In ?_
    refine dw_block ?_
    refine lp (α := (Nat) × Nat) [2, 3] (fun ⟨k, nx⟩ => (k ≤ a.data.length) ∧ (1 < nx) ∧ (∀ i, i < k → a.data[i]! = b.data[i]!) ∧ True) (fun ⟨k, nx⟩ => a.data.length - k) (fun ⟨k, nx⟩ => [(5, .i k)]) (fun ⟨k, nx⟩ => [(0, ⟨83, [a.d]⟩), (1, ⟨83, [b.d]⟩)]) (fun ⟨k, nx⟩ => nx) (0, _) (hA := ⟨iv, iv, (by first | (intro i hi; omega) | (dsimp only; intro i hi; omega)), trivial⟩) (round := ?_)
    rintro ⟨k, nx⟩ ⟨hk, hx, hv, -⟩
    show DW _ _ _ _ { n := _, t := tab _, h := _, nx := _, e := _ }
    simp only [List.cons_append, List.nil_append]
    have n0 : 0 < nx := by omega
    have ff := And.intro @hx (And.intro @n0 ff)
    refine dw_seq ?_
    refine stp In ?_
    refine cd (fun c2 => ?_) (fun c2 => ?_) (hp := rfl)
    · skip
      have hk2 : k < a.data.length := by simpa using c2
      have hk3 : k < b.data.length := by have := c1.2; omega
      have ff := And.intro (getD_dat hk2) (And.intro (getD_dat hk3) ff)
      refine dw_skip ?_
      show DW _ _ _ _ _
      refine dw_seq ?_
      refine dw_block ?_
      refine stp In ?_
      refine cd (fun c3 => ?_) (fun c3 => ?_) (hp := rfl) (hq := rfl)
      · skip
        refine stp In ?_
        refine dw_ret ?_
        exact fin 0 (hr := by (try simp only [go_sem, ff]); all_goals (rw [sameB_at (dat_diff c3)]))
      · skip
        refine dw_skip ?_
        show DW _ _ _ _ _
        refine rgn In ?_
        show ∃ _, _
        exact rnd (k + 1, _) (h1 := ⟨iv, iv, (by (try dsimp only); intro i hi; by_cases e : i = k; subst e; exact dat_same c3; exact hv i (by omega)), trivial⟩)
    · skip
      refine dw_exit ?_
      show DW _ _ _ _ _
      refine stp In ?_
      refine dw_ret ?_
      exact fin 0 (hr := by (try simp only [go_sem, ff]); all_goals (rw [sameB_yes c1 fun i hi => hv i (by omega)]))

end Go.Proofs.YtipkfnkmdeopeaaGreatDoor
namespace Go.Proofs.YtipkfnkmdeopeaaGreatDoor
open Go.DL Go.Str Go.Rec Go.Cmp Go.Zon
set_option maxRecDepth 10000
set_option linter.unusedSimpArgs false
set_option linter.unusedVariables false
theorem bo183 : hasBody Tryz.prog 183 = true := by kernel_rfl
theorem hassuf0_ct (s : Str) (p : Str) (hs : s.length ≤ 1000000) : PureCt Tryz.prog 183 [.v (.string (bs s)), .v (.string (bs p))] (.b (hasSuf s p)) := by
  refine pure_of_dw Tryz.func183 rfl bo183 (by simp [go_sem, D.nr, nrs, nrr]) (by simp [Tryz.f183]) ?_
  unfold Tryz.f183
  simp only [init_eq]
  have ff := True.intro
  have e1 : ((s.length : Int) - p.length).toNat = s.length - p.length := by omega
  have ff := And.intro @e1 ff
  refine stp In ?_
  refine stp In ?_
  refine dw_ret ?_
  exact fin 0 (hr := by (try simp only [go_sem, ff]); all_goals (simp [hasSuf]))
theorem bo166 : hasBody Tryz.prog 166 = true := by kernel_rfl
theorem hassuf_ct (s : Str) (p : Str) (hs : s.length ≤ 1000000) : PureCt Tryz.prog 166 [.v (.string (bs s)), .v (.string (bs p))] (.b (hasSuf s p)) := by
  refine pure_of_dw Tryz.func166 rfl bo166 (by simp [go_sem, D.nr, nrs, nrr]) (by simp [Tryz.f166]) ?_
  unfold Tryz.f166
  simp only [init_eq]
  have ff := True.intro
  refine stp In ?_
  refine stp In ?_ (hok := by (try simp only [go_sem, ff]); all_goals (exact hassuf0_ct _ _ hs))
  refine dw_ret ?_
  exact fin 0 (hr := by (try simp only [go_sem, ff]); all_goals (rfl))
theorem bo134 : hasBody Tryz.prog 134 = true := by kernel_rfl
theorem nunder_ct (s : Str) (z : Str) : PureCt Tryz.prog 134 [.v (.string (bs s)), .v (.string (bs z))] (.tuple [.b (underV s z), .i (if nameOk s && nameOk z then 0 else 11)]) := by
  refine pure_of_dw Tryz.func134 rfl bo134 (by simp [go_sem, D.nr, nrs, nrr]) (by simp [Tryz.f134]) ?_
  unfold Tryz.f134
  simp only [init_eq]
  have ff := True.intro
  refine stp In ?_
  refine dw_seq ?_
  refine stp In ?_ (hok := by (try simp only [go_sem, ff]); all_goals (first | done | ((repeat' (with_reducible apply And.intro)) <;> first | exact tvalid_ct _ | (intros; exact tvalid_ct _) | skip)))
  refine cd (fun c1 => ?_) (fun c1 => ?_)
  · skip
    refine stp In ?_
    refine dw_ret ?_
    exact fin 1 (hr := by (try simp only [go_sem, ff]); all_goals (first | (simp_all [underV, under]; done) | (simp; simp only [underV, under]; grind)))
  · skip
    refine dw_skip ?_
    show DW _ _ _ _ _
    refine dw_seq ?_
    refine stp In ?_
    refine cd (fun c2 => ?_) (fun c2 => ?_)
    · skip
      refine stp In ?_
      refine dw_ret ?_
      exact fin 1 (hr := by (try simp only [go_sem, ff]); all_goals (first | (simp_all [underV, under]; done) | (simp; simp only [underV, under]; grind)))
    · skip
      refine dw_skip ?_
      show DW _ _ _ _ _
      have hn := nameOk_len c1.1
      have hm := nameOk_len c1.2
      have e1 : ((s.length : Int) - z.length - 1).toNat = s.length - z.length - 1 := by omega
      have ff := And.intro @e1 ff
      refine stp In ?_ (hok := by (try simp only [go_sem, ff]); all_goals (first | done | ((repeat' (with_reducible apply And.intro)) <;> first | exact hassuf_ct _ _ (by omega) | (intros; exact hassuf_ct _ _ (by omega)) | (intro h; simp at h; omega) | skip)))
      refine dw_ret ?_
      exact fin 1 (hr := by (try simp only [go_sem, ff]); all_goals (first | (simp_all [underV, under]; done) | (simp; simp only [underV, under]; grind)))
theorem bo88 : hasBody Tryz.prog 88 = true := by kernel_rfl
theorem rwild1_ct (s : Str) (hs : s.length ≤ 1000) : PureCt Tryz.prog 88 [.v (.string (bs s))] (.b (wild1 s)) := by
  refine pure_of_dw Tryz.func88 rfl bo88 (by simp [go_sem, D.nr, nrs, nrr]) (by simp [Tryz.f88]) ?_
  unfold Tryz.f88
  simp only [init_eq]
  have ff := True.intro
  refine stp In ?_
  refine stp In ?_ (hok := by (try simp only [go_sem, ff]); all_goals (first | exact ok0 | (apply rparts1_ct <;> omega) | (intros; apply rparts1_ct <;> omega)))
  rcases hps : partsOf s with _ | ⟨p0, ps⟩
  · skip
    have ff := And.intro @hps ff
    refine stp In ?_
    refine dw_ret ?_
    exact fin 0 (hr := by (try simp only [go_sem, ff]); all_goals (simp [wild1, hps]))
  · skip
    have ff := And.intro @hps ff
    refine stp In ?_
    refine dw_ret ?_
    exact fin 0 (hr := by (try simp only [go_sem, ff]); all_goals (simp [wild1, hps]))
theorem bo123 : hasBody Tryz.prog 123 = true := by kernel_rfl
theorem zcmppl_ct (a : Str) (s : Int) (b : Str) (t : Int) : PureCt Tryz.prog 123 [.v (.string (bs a)), .i s, .v (.string (bs b)), .i t] (.i (qC ⟨a, s⟩ ⟨b, t⟩)) := by
  refine pure_of_dw Tryz.func123 rfl bo123 (by simp [go_sem, D.nr, nrs, nrr]) (by simp [Tryz.f123]) ?_
  unfold Tryz.f123
  simp only [init_eq]
  have ff := True.intro
  refine stp In ?_
  refine dw_seq ?_
  refine stp In ?_
  refine cd (fun c1 => ?_) (fun c1 => ?_)
  · skip
    refine stp In ?_ (hok := by (try simp only [go_sem, ff]); all_goals (exact ncompare_ct _ _))
    refine stp In ?_
    refine dw_ret ?_
    exact fin 0 (hr := by (try simp only [go_sem, ff]); all_goals (simp [qC, *]))
  · skip
    refine dw_skip ?_
    show DW _ _ _ _ _
    refine stp In ?_ (hok := by (try simp only [go_sem, ff]); all_goals (first | exact ok0 | (apply cmpint_ct <;> omega) | (intros; apply cmpint_ct <;> omega)))
    refine dw_ret ?_
    exact fin 0 (hr := by (try simp only [go_sem, ff]); all_goals (simp [qC, *]))
theorem bo112 : hasBody Tryz.prog 112 = true := by kernel_rfl
theorem dcmppl_ct (a : Qst) (b : Qst) : PureCt Tryz.prog 112 [.agg a.d, .agg b.d] (.i (qC a b)) := by
  refine pure_of_dw Tryz.func112 rfl bo112 (by simp [go_sem, D.nr, nrs, nrr]) (by simp [Tryz.f112]) ?_
  unfold Tryz.f112
  simp only [init_eq]
  have ff := True.intro
  refine stp In ?_
  refine dw_seq ?_
  refine stp In ?_
  refine cd (fun c1 => ?_) (fun c1 => ?_)
  · skip
    refine stp In ?_ (hok := by (try simp only [go_sem, ff]); all_goals (exact ncompare_ct _ _))
    refine stp In ?_
    refine dw_ret ?_
    exact fin 0 (hr := by (try simp only [go_sem, ff]); all_goals (simp [qC, *]))
  · skip
    refine dw_skip ?_
    show DW _ _ _ _ _
    refine stp In ?_ (hok := by (try simp only [go_sem, ff]); all_goals (first | exact ok0 | (apply cmpint_ct <;> omega) | (intros; apply cmpint_ct <;> omega)))
    refine dw_ret ?_
    exact fin 0 (hr := by (try simp only [go_sem, ff]); all_goals (simp [qC, *]))
theorem bo135 : hasBody Tryz.prog 135 = true := by kernel_rfl
theorem fitsapex_ct (t : Int) (a : Bool) : PureCt Tryz.prog 135 [.i t, .b a] (.b (fits t a)) := by
  refine pure_of_dw Tryz.func135 rfl bo135 (by simp [go_sem, D.nr, nrs, nrr]) (by simp [Tryz.f135]) ?_
  unfold Tryz.f135
  simp only [init_eq]
  have ff := True.intro
  refine stp In ?_
  refine dw_seq ?_
  refine stp In ?_
  refine dw_block ?_
  refine dw_seq ?_
  refine stp In ?_
  refine cd (fun c1 => ?_) (fun c1 => ?_)
  · skip
    refine dw_skip ?_
    show DW _ _ _ _ _
    refine cd (fun c2 => ?_) (fun c2 => ?_)
    · skip
      refine stp In ?_
      refine dw_ret ?_
      exact fin 0 (hr := by (try simp only [go_sem, ff]); all_goals (simp_all [fits]))
    · skip
      refine dw_seq ?_
      refine stp In ?_
      refine cd (fun c3 => ?_) (fun c3 => ?_)
      · skip
        refine dw_skip ?_
        show DW _ _ _ _ _
        refine cd (fun c4 => ?_) (fun c4 => ?_)
        · skip
          refine stp In ?_
          refine dw_ret ?_
          exact fin 0 (hr := by (try simp only [go_sem, ff]); all_goals (simp_all [fits]))
        · skip
          refine dw_skip ?_
          show DW _ _ _ _ _
          refine stp In ?_
          refine dw_ret ?_
          exact fin 0 (hr := by (try simp only [go_sem, ff]); all_goals (simp_all [fits]))
      · skip
        refine rgn In ?_
        show DW _ _ _ _ _
        refine cd (fun c5 => ?_) (fun c5 => ?_)
        · skip
          refine stp In ?_
          refine dw_ret ?_
          exact fin 0 (hr := by (try simp only [go_sem, ff]); all_goals (simp_all [fits]))
        · skip
          refine dw_skip ?_
          show DW _ _ _ _ _
          refine stp In ?_
          refine dw_ret ?_
          exact fin 0 (hr := by (try simp only [go_sem, ff]); all_goals (simp_all [fits]))
  · skip
    refine rgn In ?_
    show DW _ _ _ _ _
    refine cd (fun c6 => ?_) (fun c6 => ?_)
    · skip
      refine stp In ?_
      refine dw_ret ?_
      exact fin 0 (hr := by (try simp only [go_sem, ff]); all_goals (simp_all [fits]))
    · skip
      refine dw_seq ?_
      refine stp In ?_
      refine cd (fun c7 => ?_) (fun c7 => ?_)
      · skip
        refine dw_skip ?_
        show DW _ _ _ _ _
        refine cd (fun c8 => ?_) (fun c8 => ?_)
        · skip
          refine stp In ?_
          refine dw_ret ?_
          exact fin 0 (hr := by (try simp only [go_sem, ff]); all_goals (simp_all [fits]))
        · skip
          refine dw_skip ?_
          show DW _ _ _ _ _
          refine stp In ?_
          refine dw_ret ?_
          exact fin 0 (hr := by (try simp only [go_sem, ff]); all_goals (simp_all [fits]))
      · skip
        refine rgn In ?_
        show DW _ _ _ _ _
        refine cd (fun c9 => ?_) (fun c9 => ?_)
        · skip
          refine stp In ?_
          refine dw_ret ?_
          exact fin 0 (hr := by (try simp only [go_sem, ff]); all_goals (simp_all [fits]))
        · skip
          refine dw_skip ?_
          show DW _ _ _ _ _
          refine stp In ?_
          refine dw_ret ?_
          exact fin 0 (hr := by (try simp only [go_sem, ff]); all_goals (simp_all [fits]))
theorem bo92 : hasBody Tryz.prog 92 = true := by kernel_rfl
theorem rplaced_ct (t : Int) (a : Bool) : PureCt Tryz.prog 92 [.i t, .b a] (.b (fits t a)) := by
  refine pure_of_dw Tryz.func92 rfl bo92 (by simp [go_sem, D.nr, nrs, nrr]) (by simp [Tryz.f92]) ?_
  unfold Tryz.f92
  simp only [init_eq]
  have ff := True.intro
  refine stp In ?_
  refine dw_seq ?_
  refine stp In ?_
  refine cd (fun c1 => ?_) (fun c1 => ?_)
  · skip
    refine stp In ?_
    refine dw_ret ?_
    exact fin 0 (hr := by (try simp only [go_sem, ff]); all_goals (simp; simp only [fits]; grind))
  · skip
    refine dw_skip ?_
    show DW _ _ _ _ _
    refine stp In ?_
    refine dw_ret ?_
    exact fin 0 (hr := by (try simp only [go_sem, ff]); all_goals (simp; simp only [fits]; grind))
theorem bo119 : hasBody Tryz.prog 119 = true := by kernel_rfl
theorem rquest_ct (q : Qst) : PureCt Tryz.prog 119 [.agg q.d] (.b (qOk q)) := by
  refine pure_of_dw Tryz.func119 rfl bo119 (by simp [go_sem, D.nr, nrs, nrr]) (by simp [Tryz.f119]) ?_
  unfold Tryz.f119
  simp only [init_eq]
  have ff := True.intro
  refine stp In ?_
  refine stp In ?_ (hok := by (try simp only [go_sem, ff]); all_goals (first | done | ((repeat' (with_reducible apply And.intro)) <;> first | exact rnvalid_ct _ | (intros; exact rnvalid_ct _) | skip)))
  refine dw_ret ?_
  exact fin 0 (hr := by (try simp only [go_sem, ff]); all_goals (simp [qOk, inR, Bool.and_assoc]))

end Go.Proofs.YtipkfnkmdeopeaaGreatDoor
namespace Go.Proofs.YtipkfnkmdeopeaaGreatDoor
open Go.DL Go.Str Go.Rec Go.Cmp Go.Zon
set_option maxRecDepth 10000
set_option linter.unusedSimpArgs false
set_option linter.unusedVariables false
theorem bo90 : hasBody Tryz.prog 90 = true := by kernel_rfl
theorem rin1_ct (s : Str) (z : Str) (hs : s.length ≤ 1000) (hz : z.length ≤ 1000) : PureCt Tryz.prog 90 [.v (.string (bs s)), .v (.string (bs z))] (.b (inB s z)) := by
  refine pure_of_dw Tryz.func90 rfl bo90 (by simp [go_sem, D.nr, nrs, nrr]) (by simp [Tryz.f90]) ?_
  unfold Tryz.f90
  simp only [init_eq]
  have ff := True.intro
  refine stp In ?_
  refine stp In ?_ (hok := by (try simp only [go_sem, ff]); all_goals (exact rparts1_ct _ hs))
  refine stp In ?_ (hok := by (try simp only [go_sem, ff]); all_goals (exact rparts1_ct _ hz))
  refine dw_seq ?_
  refine stp In ?_
  refine cd (fun c1 => ?_) (fun c1 => ?_)
  · skip
    refine stp In ?_
    refine dw_ret ?_
    exact fin 0 (hr := by (try simp only [go_sem, ff]); all_goals (simp [inB]; omega))
  · skip
    have hp := partsOf_le s
    have hq := partsOf_le z
    refine dw_skip ?_
    show DW _ _ _ _ _
    refine dw_seq ?_
    refine stp In ?_
    refine dw_block ?_
    refine lp (α := (Nat) × Nat) [5, 6] (fun ⟨k, nx⟩ => (k ≤ (partsOf z).length) ∧ (allN (partsOf z).length (inAt (partsOf s) (partsOf z)) 0 = allN (partsOf z).length (inAt (partsOf s) (partsOf z)) k) ∧ True) (fun ⟨k, nx⟩ => (partsOf z).length - k) (fun ⟨k, nx⟩ => [(7, .i k)]) (fun ⟨k, nx⟩ => []) (fun ⟨k, nx⟩ => nx) (0, _) (hA := ⟨iv, rfl, trivial⟩) (round := ?_)
    rintro ⟨k, nx⟩ ⟨hk, hv, -⟩
    show DW _ _ _ _ { n := _, t := tab _, h := _, nx := _, e := _ }
    simp only [List.cons_append, List.nil_append]
    refine dw_seq ?_
    refine stp In ?_
    refine cd (fun c2 => ?_) (fun c2 => ?_) (hp := rfl)
    · skip
      have hk2 : k < (partsOf z).length := by simpa using c2
      have hk3 : (partsOf s).length - (partsOf z).length + k < (partsOf s).length := by omega
      have e1 : (((partsOf s).length : Int) - (partsOf z).length + k).toNat = (partsOf s).length - (partsOf z).length + k := by omega
      have ff := And.intro @e1 (And.intro (getD_sR hk2) (And.intro (getD_sR hk3) ff))
      refine dw_skip ?_
      show DW _ _ _ _ _
      refine dw_seq ?_
      refine dw_block ?_
      refine stp In ?_
      refine cd (fun c3 => ?_) (fun c3 => ?_)
      · skip
        refine stp In ?_
        refine dw_ret ?_
        exact fin 0 (hr := by (try simp only [go_sem, ff]); all_goals (have hF : (inAt (partsOf s) (partsOf z)) k = false := (by simp only [inAt]; grind); simp only [inB]; rw [hv, allN_no hk2 hF]; try simp))
      · skip
        refine dw_skip ?_
        show DW _ _ _ _ _
        refine rgn In ?_
        show ∃ _, _
        have h8 : (inAt (partsOf s) (partsOf z)) k = true := by simp only [inAt]; grind
        exact rnd (k + 1, _) (h1 := ⟨iv, (by first | (rw [hv, allN_yes hk2 h8]) | (dsimp only; rw [hv, allN_yes hk2 h8])), trivial⟩)
    · skip
      refine dw_exit ?_
      show DW _ _ _ _ _
      refine stp In ?_
      refine dw_ret ?_
      exact fin 0 (hr := by (try simp only [go_sem, ff]); all_goals (simp only [inB]; rw [hv, allN_end (by omega)]; simp; omega))
theorem bo136 : hasBody Tryz.prog 136 = true := by kernel_rfl
theorem zinform_ct (l : List RSig) (a : Str) : PureCt Tryz.prog 136 [.list false (l.map RSig.d), .v (.string (bs a))] (.b (sigsOk l a)) := by
  refine pure_of_dw Tryz.func136 rfl bo136 (by simp [go_sem, D.nr, nrs, nrr]) (by simp [Tryz.f136]) ?_
  unfold Tryz.f136
  simp only [init_eq]
  have ff := True.intro
  refine stp In ?_
  refine dw_seq ?_
  refine stp In ?_
  refine cd (fun c1 => ?_) (fun c1 => ?_)
  · skip
    refine stp In ?_
    refine dw_ret ?_
    exact fin 0 (hr := by (try simp only [go_sem, ff]); all_goals (simp [sigsOk]; omega))
  · skip
    refine dw_skip ?_
    show DW _ _ _ _ _
    refine dw_seq ?_
    refine stp In ?_
    refine dw_block ?_
    refine lp (α := (Nat) × Nat) [0, 1, 10, 11] (fun ⟨k, nx⟩ => (k ≤ l.length) ∧ (allN l.length (sigAt a l) 0 = allN l.length (sigAt a l) k) ∧ True) (fun ⟨k, nx⟩ => l.length - k) (fun ⟨k, nx⟩ => [(12, .i k)]) (fun ⟨k, nx⟩ => []) (fun ⟨k, nx⟩ => nx) (0, _) (hA := ⟨iv, rfl, trivial⟩) (round := ?_)
    rintro ⟨k, nx⟩ ⟨hk, hv, -⟩
    show DW _ _ _ _ { n := _, t := tab _, h := _, nx := _, e := _ }
    simp only [List.cons_append, List.nil_append]
    refine stp In ?_
    refine dw_seq ?_
    refine cd (fun c2 => ?_) (fun c2 => ?_) (hp := rfl)
    · skip
      have hk2 : k < l.length := by simpa using c2
      have h0 : 0 < l.length := by omega
      have hk1 : k - 1 < l.length := by omega
      have e1 : ((k:Int) - 1).toNat = k - 1 := by omega
      have ff := And.intro (getD_sig hk2) (And.intro (getD_sig h0) (And.intro (getD_sig hk1) (And.intro @e1 ff)))
      refine dw_skip ?_
      show DW _ _ _ _ _
      refine dw_seq ?_
      refine dw_block ?_
      refine stp In ?_
      refine dw_seq ?_
      refine stp In ?_
      refine cd (fun c3 => ?_) (fun c3 => ?_)
      · skip
        refine stp In ?_
        refine dw_ret ?_
        exact fin 0 (hr := by (try simp only [go_sem, ff]); all_goals (have hF : (sigAt a l) k = false := (by simp only [sigAt, inR]; grind); simp only [sigsOk]; rw [hv, allN_no hk2 hF]; try simp))
      · skip
        refine dw_skip ?_
        show DW _ _ _ _ _
        refine dw_seq ?_
        refine stp In ?_
        refine cd (fun c4 => ?_) (fun c4 => ?_)
        · skip
          refine stp In ?_
          refine dw_ret ?_
          exact fin 0 (hr := by (try simp only [go_sem, ff]); all_goals (have hF : (sigAt a l) k = false := (by simp only [sigAt, inR]; grind); simp only [sigsOk]; rw [hv, allN_no hk2 hF]; try simp))
        · skip
          refine dw_skip ?_
          show DW _ _ _ _ _
          refine stp In ?_
          refine cd (fun c5 => ?_) (fun c5 => ?_)
          · skip
            refine stp In ?_
            refine dw_ret ?_
            exact fin 0 (hr := by (try simp only [go_sem, ff]); all_goals (have hF : (sigAt a l) k = false := (by simp only [sigAt, inR]; grind); simp only [sigsOk]; rw [hv, allN_no hk2 hF]; try simp))
          · skip
            refine dw_skip ?_
            show DW _ _ _ _ _
            refine rgn In ?_
            show ∃ _, _
            have h8 : (sigAt a l) k = true := by simp only [sigAt, inR]; grind
            exact rnd (k + 1, _) (h1 := ⟨iv, (by first | (rw [hv, allN_yes hk2 h8]) | (dsimp only; rw [hv, allN_yes hk2 h8])), trivial⟩)
    · skip
      refine dw_exit ?_
      show DW _ _ _ _ _
      refine stp In ?_
      refine dw_ret ?_
      exact fin 0 (hr := by (try simp only [go_sem, ff]); all_goals (simp only [sigsOk]; rw [hv, allN_end (by omega)]; simp; omega))
theorem bo95 : hasBody Tryz.prog 95 = true := by kernel_rfl
theorem rsigs_ct (l : List RSig) (a : Str) : PureCt Tryz.prog 95 [.list false (l.map RSig.d), .v (.string (bs a))] (.b (sigsOk l a)) := by
  refine pure_of_dw Tryz.func95 rfl bo95 (by simp [go_sem, D.nr, nrs, nrr]) (by simp [Tryz.f95]) ?_
  unfold Tryz.f95
  simp only [init_eq]
  have ff := True.intro
  refine stp In ?_
  refine dw_seq ?_
  refine stp In ?_
  refine cd (fun c1 => ?_) (fun c1 => ?_)
  · skip
    refine stp In ?_
    refine dw_ret ?_
    exact fin 0 (hr := by (try simp only [go_sem, ff]); all_goals (simp [sigsOk]; omega))
  · skip
    refine dw_skip ?_
    show DW _ _ _ _ _
    refine dw_seq ?_
    refine stp In ?_
    refine dw_block ?_
    refine lp (α := (Nat) × Nat) [0, 1] (fun ⟨k, nx⟩ => (k ≤ l.length) ∧ (allN l.length (sigAt a l) 0 = allN l.length (sigAt a l) k) ∧ True) (fun ⟨k, nx⟩ => l.length - k) (fun ⟨k, nx⟩ => [(5, .i k)]) (fun ⟨k, nx⟩ => []) (fun ⟨k, nx⟩ => nx) (0, _) (hA := ⟨iv, rfl, trivial⟩) (round := ?_)
    rintro ⟨k, nx⟩ ⟨hk, hv, -⟩
    show DW _ _ _ _ { n := _, t := tab _, h := _, nx := _, e := _ }
    simp only [List.cons_append, List.nil_append]
    refine dw_seq ?_
    refine stp In ?_
    refine cd (fun c2 => ?_) (fun c2 => ?_) (hp := rfl)
    · skip
      have hk2 : k < l.length := by simpa using c2
      have h0 : 0 < l.length := by omega
      have hk1 : k - 1 < l.length := by omega
      have e1 : ((k:Int) - 1).toNat = k - 1 := by omega
      have ff := And.intro (getD_sig hk2) (And.intro (getD_sig h0) (And.intro (getD_sig hk1) (And.intro @e1 ff)))
      refine dw_skip ?_
      show DW _ _ _ _ _
      refine dw_seq ?_
      refine dw_block ?_
      refine stp In ?_
      refine dw_seq ?_
      refine stp In ?_
      refine cd (fun c3 => ?_) (fun c3 => ?_)
      · skip
        refine stp In ?_
        refine dw_ret ?_
        exact fin 0 (hr := by (try simp only [go_sem, ff]); all_goals (have hF : (sigAt a l) k = false := (by simp only [sigAt, inR]; grind); simp only [sigsOk]; rw [hv, allN_no hk2 hF]; try simp))
      · skip
        refine dw_skip ?_
        show DW _ _ _ _ _
        refine stp In ?_
        refine cd (fun c4 => ?_) (fun c4 => ?_)
        · skip
          refine stp In ?_
          refine dw_ret ?_
          exact fin 0 (hr := by (try simp only [go_sem, ff]); all_goals (have hF : (sigAt a l) k = false := (by simp only [sigAt, inR]; grind); simp only [sigsOk]; rw [hv, allN_no hk2 hF]; try simp))
        · skip
          refine dw_skip ?_
          show DW _ _ _ _ _
          refine rgn In ?_
          show ∃ _, _
          have h8 : (sigAt a l) k = true := by simp only [sigAt, inR]; grind
          exact rnd (k + 1, _) (h1 := ⟨iv, (by first | (rw [hv, allN_yes hk2 h8]) | (dsimp only; rw [hv, allN_yes hk2 h8])), trivial⟩)
    · skip
      refine dw_exit ?_
      show DW _ _ _ _ _
      refine stp In ?_
      refine dw_ret ?_
      exact fin 0 (hr := by (try simp only [go_sem, ff]); all_goals (simp only [sigsOk]; rw [hv, allN_end (by omega)]; simp; omega))

end Go.Proofs.YtipkfnkmdeopeaaGreatDoor
namespace Go.Proofs.YtipkfnkmdeopeaaGreatDoor
open Go.DL Go.Str Go.Rec Go.Cmp Go.Zon
set_option maxRecDepth 10000
set_option linter.unusedSimpArgs false
set_option linter.unusedVariables false
theorem find_step {l : List Sgd} {q : Qst} {i j : Nat} (hv : findIx l q = bsIx (fun k => qC l[k]!.q q) i j) (h : i < j) : (qC l[(i + j) / 2]!.q q < 0 → findIx l q = bsIx (fun k => qC l[k]!.q q) ((i + j) / 2 + 1) j) ∧ (¬ qC l[(i + j) / 2]!.q q < 0 → findIx l q = bsIx (fun k => qC l[k]!.q q) i ((i + j) / 2)) := by
  rw [bsIx_eq, if_pos h] at hv
  exact ⟨fun h2 => by rw [if_pos h2] at hv; exact hv, fun h2 => by rw [if_neg h2] at hv; exact hv⟩
theorem bo122 : hasBody Tryz.prog 122 = true := by kernel_rfl
theorem zfind1_ct (s : Sgd) (q : Qst) : PureCt Tryz.prog 122 [.agg s.d, .agg q.d] (.i (qC s.q q)) := by
  refine pure_of_dw Tryz.func122 rfl bo122 (by simp [go_sem, D.nr, nrs, nrr]) (by simp [Tryz.f122]) ?_
  unfold Tryz.f122
  simp only [init_eq]
  have ff := True.intro
  refine stp In ?_
  refine stp In ?_ (hok := by (try simp only [go_sem, ff]); all_goals (exact zcmppl_ct _ _ _ _))
  refine dw_ret ?_
  exact fin 0 (hr := by (try simp only [go_sem, ff]); all_goals (rfl))
theorem bo121 : hasBody Tryz.prog 121 = true := by kernel_rfl
theorem zbsf_ct (l : List Sgd) (q : Qst) (hl : l.length ≤ 1000000) : PureCt Tryz.prog 121 [.list false (l.map Sgd.d), .agg q.d, .fn (.func 122) [] []] (.tuple [.i (findIx l q), .b (findOk l q)]) := by
  refine pure_of_dw Tryz.func121 rfl bo121 (by simp [go_sem, D.nr, nrs, nrr]) (by simp [Tryz.f121]) ?_
  unfold Tryz.f121
  simp only [init_eq]
  have ff := True.intro
  refine stp In ?_
  refine stp In ?_
  refine stp In ?_
  refine dw_seq ?_
  refine dw_block ?_
  refine lp (α := (Nat) × (Nat) × Nat) [0, 2, 4, 8] (fun ⟨i, j, nx⟩ => (i ≤ j) ∧ (j ≤ l.length) ∧ (0 < nx) ∧ (findIx l q = bsIx (fun k => qC l[k]!.q q) i j) ∧ True) (fun ⟨i, j, nx⟩ => j - i) (fun ⟨i, j, nx⟩ => [(9, .i i), (10, .i j)]) (fun ⟨i, j, nx⟩ => [(0, ⟨89, [q.d]⟩)]) (fun ⟨i, j, nx⟩ => nx) (0, l.length, _) (hA := ⟨iv, iv, iv, rfl, trivial⟩) (round := ?_)
  rintro ⟨i, j, nx⟩ ⟨hij, hj, hx, hv, -⟩
  show DW _ _ _ _ { n := _, t := tab _, h := _, nx := _, e := _ }
  simp only [List.cons_append, List.nil_append]
  have ff := And.intro @hx ff
  refine dw_seq ?_
  refine stp In ?_
  refine cd (fun c1 => ?_) (fun c1 => ?_) (hp := rfl)
  · skip
    have hk2 : i < j := by simpa using c1
    have hm : (i + j) / 2 < l.length := by omega
    have ff := And.intro (mid_eq (i := i) (j := j) (by omega)) (And.intro (getD_sgd hm) ff)
    refine dw_skip ?_
    show DW _ _ _ _ _
    refine dw_block ?_
    refine stp In ?_
    refine stp In ?_ (hok := by (try simp only [go_sem, ff]); all_goals (first | done | ((repeat' (with_reducible apply And.intro)) <;> first | exact zfind1_ct l[(i + j) / 2]! q | (intros; exact zfind1_ct l[(i + j) / 2]! q) | omega)))
    refine cd (fun c2 => ?_) (fun c2 => ?_)
    · skip
      refine rgn In ?_
      show ∃ _, _
      exact rnd ((i + j) / 2 + 1, j, _) (h1 := ⟨iv, iv, iv, (by first | (exact (find_step hv hk2).1 c2) | (dsimp only; exact (find_step hv hk2).1 c2)), trivial⟩)
    · skip
      refine rgn In ?_
      show ∃ _, _
      exact rnd (i, (i + j) / 2, _) (h1 := ⟨iv, iv, iv, (by (try dsimp only); exact (find_step hv hk2).2 (by omega)), trivial⟩)
  · skip
    refine dw_exit ?_
    show DW _ _ _ _ _
    have hij2 : i = j := by have h9 : ¬ i < j := (by simpa using c1); omega
    have hv2 : findIx l q = i := by rw [hv, bsIx_eq, if_neg (by omega)]
    by_cases hk4 : i < l.length
    · skip
      have ff := And.intro (getD_sgd hk4) ff
      refine stp In ?_ (hok := by (try simp only [go_sem, ff]); all_goals (first | done | ((repeat' (with_reducible apply And.intro)) <;> first | exact zfind1_ct l[i]! q | (intros; exact zfind1_ct l[i]! q) | omega | (intro h; have h := of_decide_eq_true h; omega))))
      refine dw_ret ?_
      exact fin 1 (hr := by (try simp only [go_sem, ff]); all_goals (simp only [findOk]; rw [hv2]; simp [hk4]))
    · skip
      have ff := And.intro (getD_off (f := Sgd.d) (Nat.le_of_not_lt hk4)) ff
      refine stp In ?_ (hok := by (try simp only [go_sem, ff]); all_goals (first | done | ((repeat' (with_reducible apply And.intro)) <;> first | exact zfind1_ct l[i]! q | (intros; exact zfind1_ct l[i]! q) | omega | (intro h; have h := of_decide_eq_true h; omega))))
      refine dw_ret ?_
      exact fin 1 (hr := by (try simp only [go_sem, ff]); all_goals (simp only [findOk]; rw [hv2]; simp [hk4]))
theorem bo86 : hasBody Tryz.prog 86 = true := by kernel_rfl
theorem zfind_ct (z : Zon) (q : Qst) (hl : z.sets.length ≤ 1000000) : PureCt Tryz.prog 86 [.agg z.d, .agg q.d] (.tuple [.i (findIx z.sets q), .b (findOk z.sets q)]) := by
  refine pure_of_dw Tryz.func86 rfl bo86 (by simp [go_sem, D.nr, nrs, nrr]) (by simp [Tryz.f86]) ?_
  unfold Tryz.f86
  simp only [init_eq]
  have ff := True.intro
  refine stp In ?_
  refine stp In ?_ (hok := by (try simp only [go_sem, ff]); all_goals (first | done | ((repeat' (with_reducible apply And.intro)) <;> first | exact zbsf_ct _ _ hl | (intros; exact zbsf_ct _ _ hl) | skip)))
  refine dw_ret ?_
  exact fin 1 (hr := by (try simp only [go_sem, ff]); all_goals (rfl))
theorem bo96 : hasBody Tryz.prog 96 = true := by kernel_rfl
theorem zordered_ct (z : Zon) : PureCt Tryz.prog 96 [.agg z.d] (.b (ordered z)) := by
  refine pure_of_dw Tryz.func96 rfl bo96 (by simp [go_sem, D.nr, nrs, nrr]) (by simp [Tryz.f96]) ?_
  unfold Tryz.f96
  simp only [init_eq]
  have ff := True.intro
  refine stp In ?_
  refine dw_seq ?_
  refine stp In ?_ (hok := by (try simp only [go_sem, ff]); all_goals (first | done | ((repeat' (with_reducible apply And.intro)) <;> first | exact nvalid_ct _ | (intros; exact nvalid_ct _) | exact haspre_ct _ _ | (intros; exact haspre_ct _ _) | skip)))
  refine cd (fun c1 => ?_) (fun c1 => ?_)
  · skip
    refine stp In ?_
    refine dw_ret ?_
    exact fin 0 (hr := by (try simp only [go_sem, ff]); all_goals (simp only [ordered]; rw [wild_pre] at *; grind))
  · skip
    refine dw_skip ?_
    show DW _ _ _ _ _
    refine dw_seq ?_
    refine stp In ?_
    refine dw_block ?_
    refine lp (α := (Nat) × Nat) [1, 28, 29] (fun ⟨k, nx⟩ => (k ≤ z.sets.length) ∧ (allN z.sets.length (ordAt z.apex z.sets) 0 = allN z.sets.length (ordAt z.apex z.sets) k) ∧ (0 < nx) ∧ True) (fun ⟨k, nx⟩ => z.sets.length - k) (fun ⟨k, nx⟩ => [(30, .i k)]) (fun ⟨k, nx⟩ => [(0, ⟨118, [z.d]⟩)]) (fun ⟨k, nx⟩ => nx) (0, _) (hA := ⟨iv, rfl, iv, trivial⟩) (round := ?_)
    rintro ⟨k, nx⟩ ⟨hk, hv, hx, -⟩
    show DW _ _ _ _ { n := _, t := tab _, h := _, nx := _, e := _ }
    simp only [List.cons_append, List.nil_append]
    have ff := And.intro @hx ff
    refine stp In ?_
    refine dw_seq ?_
    refine cd (fun c2 => ?_) (fun c2 => ?_) (hp := rfl)
    · skip
      have hk2 : k < z.sets.length := by simpa using c2
      have h0 : 0 < z.sets.length := by omega
      have hk1 : k - 1 < z.sets.length := by omega
      have e1 : ((k:Int) - 1).toNat = k - 1 := by omega
      have ff := And.intro (getD_sgd hk2) (And.intro (getD_sgd h0) (And.intro (getD_sgd hk1) (And.intro @e1 ff)))
      refine dw_skip ?_
      show DW _ _ _ _ _
      refine dw_seq ?_
      refine dw_block ?_
      refine stp In ?_
      refine dw_seq ?_
      refine stp In ?_ (hok := by (try simp only [go_sem, ff]); all_goals (exact rvalid_ct _))
      refine cd (fun c3 => ?_) (fun c3 => ?_)
      · skip
        refine stp In ?_
        refine dw_ret ?_
        exact fin 0 (hr := by (try simp only [go_sem, ff]); all_goals (have hF : (ordAt z.apex z.sets) k = false := (by simp only [ordAt]; grind [Sgd.q]); simp only [ordered]; rw [hv, allN_no hk2 hF]; try simp))
      · skip
        refine dw_skip ?_
        show DW _ _ _ _ _
        refine dw_seq ?_
        refine stp In ?_ (hok := by (try simp only [go_sem, ff]); all_goals (exact nunder_ct _ _))
        refine stp In ?_
        refine cd (fun c4 => ?_) (fun c4 => ?_)
        · skip
          refine stp In ?_
          refine dw_ret ?_
          exact fin 0 (hr := by (try simp only [go_sem, ff]); all_goals (have hF : (ordAt z.apex z.sets) k = false := (by simp only [ordAt]; grind [Sgd.q]); simp only [ordered]; rw [hv, allN_no hk2 hF]; try simp))
        · skip
          refine dw_skip ?_
          show DW _ _ _ _ _
          refine dw_seq ?_
          refine stp In ?_
          refine cd (fun c5 => ?_) (fun c5 => ?_)
          · skip
            refine dw_exit ?_
            show DW _ _ _ _ _
            refine rgn In ?_
            show ∃ _, _
            have h8 : (ordAt z.apex z.sets) k = true := by simp only [ordAt]; grind [Sgd.q]
            exact rnd (k + 1, _) (h1 := ⟨iv, (by first | (rw [hv, allN_yes hk2 h8]) | (dsimp only; rw [hv, allN_yes hk2 h8])), iv, trivial⟩)
          · skip
            refine dw_skip ?_
            show DW _ _ _ _ _
            refine stp In ?_
            refine stp In ?_ (hok := by (try simp only [go_sem, ff]); all_goals (exact zcmppl_ct _ _ _ _))
            refine cd (fun c6 => ?_) (fun c6 => ?_)
            · skip
              refine stp In ?_
              refine dw_ret ?_
              exact fin 0 (hr := by (try simp only [go_sem, ff]); all_goals (have hF : (ordAt z.apex z.sets) k = false := (by simp only [ordAt]; grind [Sgd.q]); simp only [ordered]; rw [hv, allN_no hk2 hF]; try simp))
            · skip
              refine dw_skip ?_
              show DW _ _ _ _ _
              refine rgn In ?_
              show ∃ _, _
              have h8 : (ordAt z.apex z.sets) k = true := by simp only [ordAt]; grind [Sgd.q]
              exact rnd (k + 1, _) (h1 := ⟨iv, (by first | (rw [hv, allN_yes hk2 h8]) | (dsimp only; rw [hv, allN_yes hk2 h8])), iv, trivial⟩)
    · skip
      refine dw_exit ?_
      show DW _ _ _ _ _
      refine stp In ?_
      refine dw_ret ?_
      exact fin 0 (hr := by (try simp only [go_sem, ff]); all_goals (simp only [ordered]; rw [wild_pre] at *; rw [hv, allN_end (by omega)]; grind))
theorem bo97 : hasBody Tryz.prog 97 = true := by kernel_rfl
theorem zapex_ct (z : Zon) (hl : z.sets.length ≤ 1000000) : PureCt Tryz.prog 97 [.agg z.d] (.b (apexHolds z)) := by
  refine pure_of_dw Tryz.func97 rfl bo97 (by simp [go_sem, D.nr, nrs, nrr]) (by simp [Tryz.f97]) ?_
  unfold Tryz.f97
  simp only [init_eq]
  have ff := True.intro
  refine stp In ?_
  refine dw_seq ?_
  refine stp In ?_
  refine dw_block ?_
  refine lp (α := (Nat) × Nat) [1, 9, 10] (fun ⟨k, nx⟩ => (k ≤ 2) ∧ (allN 2 (apexAt z) 0 = allN 2 (apexAt z) k) ∧ (0 < nx) ∧ True) (fun ⟨k, nx⟩ => 2 - k) (fun ⟨k, nx⟩ => [(11, .i k)]) (fun ⟨k, nx⟩ => [(0, ⟨118, [z.d]⟩)]) (fun ⟨k, nx⟩ => nx) (0, _) (hA := ⟨iv, rfl, iv, trivial⟩) (round := ?_)
  rintro ⟨k, nx⟩ ⟨hk, hv1, hx, -⟩
  show DW _ _ _ _ { n := _, t := tab _, h := _, nx := _, e := _ }
  simp only [List.cons_append, List.nil_append]
  have ff := And.intro @hx ff
  refine stp In ?_
  refine dw_seq ?_
  refine cd (fun c1 => ?_) (fun c1 => ?_) (hp := rfl)
  · skip
    have hk2 : k < 2 := by have h9 : (k:Int) < 2 := (by simpa using c1); omega
    refine dw_skip ?_
    show DW _ _ _ _ _
    refine dw_seq ?_
    refine dw_block ?_
    have h01 : k = 0 ∨ k = 1 := by omega
    rcases h01 with e0 | e0
    · skip
      have ff := And.intro @e0 ff
      refine stp In ?_
      refine stp In ?_ (hok := by (try simp only [go_sem, ff]); all_goals (first | done | ((repeat' (with_reducible apply And.intro)) <;> first | exact zfind_ct z ⟨z.apex, 4⟩ hl | (intros; exact zfind_ct z ⟨z.apex, 4⟩ hl) | exact zfind_ct z ⟨z.apex, 2⟩ hl | (intros; exact zfind_ct z ⟨z.apex, 2⟩ hl) | skip)))
      refine stp In ?_
      refine cd (fun c2 => ?_) (fun c2 => ?_)
      · skip
        refine stp In ?_
        refine dw_ret ?_
        exact fin 0 (hr := by (try simp only [go_sem, ff]); all_goals (have hF : (apexAt z) k = false := (by simpa [apexAt, e0] using c2); simp only [apexHolds]; rw [hv1, allN_no hk2 hF]; try simp))
      · skip
        refine dw_skip ?_
        show DW _ _ _ _ _
        refine rgn In ?_
        show ∃ _, _
        have h8 : (apexAt z) k = true := by simpa [apexAt, e0] using c2
        exact rnd (k + 1, _) (h1 := ⟨iv, (by first | (rw [hv1, allN_yes hk2 h8]) | (dsimp only; rw [hv1, allN_yes hk2 h8])), iv, trivial⟩)
    · skip
      have ff := And.intro @e0 ff
      refine stp In ?_
      refine stp In ?_ (hok := by (try simp only [go_sem, ff]); all_goals (first | done | ((repeat' (with_reducible apply And.intro)) <;> first | exact zfind_ct z ⟨z.apex, 4⟩ hl | (intros; exact zfind_ct z ⟨z.apex, 4⟩ hl) | exact zfind_ct z ⟨z.apex, 2⟩ hl | (intros; exact zfind_ct z ⟨z.apex, 2⟩ hl) | skip)))
      refine stp In ?_
      refine cd (fun c2 => ?_) (fun c2 => ?_)
      · skip
        refine stp In ?_
        refine dw_ret ?_
        exact fin 0 (hr := by (try simp only [go_sem, ff]); all_goals (have hF : (apexAt z) k = false := (by simpa [apexAt, e0] using c2); simp only [apexHolds]; rw [hv1, allN_no hk2 hF]; try simp))
      · skip
        refine dw_skip ?_
        show DW _ _ _ _ _
        refine rgn In ?_
        show ∃ _, _
        have h8 : (apexAt z) k = true := by simpa [apexAt, e0] using c2
        exact rnd (k + 1, _) (h1 := ⟨iv, (by first | (rw [hv1, allN_yes hk2 h8]) | (dsimp only; rw [hv1, allN_yes hk2 h8])), iv, trivial⟩)
  · skip
    refine dw_exit ?_
    show DW _ _ _ _ _
    refine dw_seq ?_
    refine stp In ?_
    refine dw_block ?_
    refine lp (α := (Nat) × Nat) [1, 30, 31] (fun ⟨k, nx⟩ => (k ≤ z.sets.length) ∧ (allN z.sets.length (fitAt z.apex z.sets) 0 = allN z.sets.length (fitAt z.apex z.sets) k) ∧ (0 < nx) ∧ True) (fun ⟨k, nx⟩ => z.sets.length - k) (fun ⟨k, nx⟩ => [(32, .i k)]) (fun ⟨k, nx⟩ => [(0, ⟨118, [z.d]⟩)]) (fun ⟨k, nx⟩ => nx) (0, _) (hA := ⟨iv, rfl, iv, trivial⟩) (round := ?_)
    rintro ⟨k, nx⟩ ⟨hk, hv, hx, -⟩
    show DW _ _ _ _ { n := _, t := tab _, h := _, nx := _, e := _ }
    simp only [List.cons_append, List.nil_append]
    have ff := And.intro @hx ff
    refine stp In ?_
    refine dw_seq ?_
    refine cd (fun c3 => ?_) (fun c3 => ?_) (hp := rfl)
    · skip
      have hk2 : k < z.sets.length := by simpa using c3
      have ff := And.intro (getD_sgd hk2) ff
      refine dw_skip ?_
      show DW _ _ _ _ _
      refine dw_seq ?_
      refine dw_block ?_
      refine stp In ?_
      refine stp In ?_ (hok := by (try simp only [go_sem, ff]); all_goals (exact fitsapex_ct _ _))
      refine cd (fun c4 => ?_) (fun c4 => ?_)
      · skip
        refine stp In ?_
        refine dw_ret ?_
        exact fin 0 (hr := by (try simp only [go_sem, ff]); all_goals (have hF : (fitAt z.apex z.sets) k = false := (by simp only [fitAt]; grind); simp only [apexHolds]; rw [hv, allN_no hk2 hF]; try simp))
      · skip
        refine dw_skip ?_
        show DW _ _ _ _ _
        refine rgn In ?_
        show ∃ _, _
        have h8 : (fitAt z.apex z.sets) k = true := by simp only [fitAt]; grind
        exact rnd (k + 1, _) (h1 := ⟨iv, (by first | (rw [hv, allN_yes hk2 h8]) | (dsimp only; rw [hv, allN_yes hk2 h8])), iv, trivial⟩)
    · skip
      refine dw_exit ?_
      show DW _ _ _ _ _
      refine stp In ?_
      refine dw_ret ?_
      exact fin 0 (hr := by (try simp only [go_sem, ff]); all_goals (simp only [apexHolds]; rw [hv1, hv, allN_end (n := 2) (by omega), allN_end (by omega)]; rfl))

end Go.Proofs.YtipkfnkmdeopeaaGreatDoor
namespace Go.Proofs.YtipkfnkmdeopeaaGreatDoor
open Go.DL Go.Str Go.Rec Go.Cmp Go.Zon
set_option maxRecDepth 10000
set_option linter.unusedSimpArgs false
set_option linter.unusedVariables false
@[go_sem] theorem keysOk_T {m : List Str} : keysOk Tryz.prog 9 (kvT m) = true := by
  induction m with
  | nil => rfl
  | cons s m ih => rw [kvT_cons]; simp only [keysOk, ih, ko9, Bool.and_self]
theorem bo99 : hasBody Tryz.prog 99 = true := by kernel_rfl
theorem zalias_ct (x : Lay) (hl : x.z.sets.length ≤ 1000000) : PureCt Tryz.prog 99 [.agg x.d] (.b (aliasB x)) := by
  refine pure_of_dw Tryz.func99 rfl bo99 (by simp [go_sem, D.nr, nrs, nrr]) (by simp [Tryz.f99]) ?_
  unfold Tryz.f99
  simp only [init_eq]
  have ff := True.intro
  refine stp In ?_
  refine dw_seq ?_
  refine stp In ?_
  refine dw_block ?_
  refine lp (α := (Nat) × Nat) [1, 8, 9] (fun ⟨k, nx⟩ => (k ≤ x.z.sets.length) ∧ (allN x.z.sets.length (aliasAt x.z.sets) 0 = allN x.z.sets.length (aliasAt x.z.sets) k) ∧ (0 < nx) ∧ True) (fun ⟨k, nx⟩ => x.z.sets.length - k) (fun ⟨k, nx⟩ => [(10, .i k)]) (fun ⟨k, nx⟩ => [(0, ⟨130, [x.d]⟩)]) (fun ⟨k, nx⟩ => nx) (0, _) (hA := ⟨iv, rfl, iv, trivial⟩) (round := ?_)
  rintro ⟨k, nx⟩ ⟨hk, hv, hx, -⟩
  show DW _ _ _ _ { n := _, t := tab _, h := _, nx := _, e := _ }
  simp only [List.cons_append, List.nil_append]
  have ff := And.intro @hx ff
  refine stp In ?_
  refine dw_seq ?_
  refine cd (fun c1 => ?_) (fun c1 => ?_) (hp := rfl)
  · skip
    have hk2 : k < x.z.sets.length := by simpa using c1
    have hk1 : k - 1 < x.z.sets.length := by omega
    have e1 : ((k:Int) - 1).toNat = k - 1 := by omega
    have e2 : ((k:Int) + 1).toNat = k + 1 := by omega
    have ff := And.intro (getD_sgd hk2) (And.intro (getD_sgd hk1) (And.intro @e1 (And.intro @e2 ff)))
    refine dw_skip ?_
    show DW _ _ _ _ _
    refine dw_seq ?_
    refine dw_block ?_
    refine stp In ?_
    refine dw_seq ?_
    refine stp In ?_
    refine cd (fun c2 => ?_) (fun c2 => ?_)
    · skip
      refine dw_exit ?_
      show DW _ _ _ _ _
      refine rgn In ?_
      show ∃ _, _
      have h8 : (aliasAt x.z.sets) k = true := by simp only [aliasAt]; grind
      exact rnd (k + 1, _) (h1 := ⟨iv, (by first | (rw [hv, allN_yes hk2 h8]) | (dsimp only; rw [hv, allN_yes hk2 h8])), iv, trivial⟩)
    · skip
      refine dw_skip ?_
      show DW _ _ _ _ _
      refine dw_seq ?_
      refine stp In ?_
      refine cd (fun c3 => ?_) (fun c3 => ?_)
      · skip
        refine stp In ?_
        refine dw_ret ?_
        exact fin 0 (hr := by (try simp only [go_sem, ff]); all_goals (have hF : (aliasAt x.z.sets) k = false := (by simp only [aliasAt]; grind); simp only [aliasB]; rw [hv, allN_no hk2 hF]; try simp))
      · skip
        refine dw_skip ?_
        show DW _ _ _ _ _
        by_cases hk4 : k + 1 < x.z.sets.length
        · skip
          have ff := And.intro (getD_sgd hk4) ff
          refine stp In ?_
          refine cd (fun c4 => ?_) (fun c4 => ?_)
          · skip
            refine stp In ?_
            refine dw_ret ?_
            exact fin 0 (hr := by (try simp only [go_sem, ff]); all_goals (have hF : (aliasAt x.z.sets) k = false := (by simp only [aliasAt]; grind); simp only [aliasB]; rw [hv, allN_no hk2 hF]; try simp))
          · skip
            refine dw_skip ?_
            show DW _ _ _ _ _
            refine rgn In ?_
            show ∃ _, _
            have h8 : (aliasAt x.z.sets) k = true := by simp only [aliasAt]; grind
            exact rnd (k + 1, _) (h1 := ⟨iv, (by first | (rw [hv, allN_yes hk2 h8]) | (dsimp only; rw [hv, allN_yes hk2 h8])), iv, trivial⟩)
        · skip
          have e9 : decide (((k + 1 : Nat) : Int) < x.z.sets.length) = false := decide_eq_false (by omega)
          have ff := And.intro (getD_off (f := Sgd.d) (Nat.le_of_not_lt hk4)) ff
          refine stp In ?_
          refine cd (fun c5 => ?_) (fun c5 => ?_)
          · skip
            refine stp In ?_
            refine dw_ret ?_
            exact fin 0 (hr := by (try simp only [go_sem, ff]); all_goals (have hF : (aliasAt x.z.sets) k = false := (by simp only [aliasAt]; grind); simp only [aliasB]; rw [hv, allN_no hk2 hF]; try simp))
          · skip
            refine dw_skip ?_
            show DW _ _ _ _ _
            refine rgn In ?_
            show ∃ _, _
            have h8 : (aliasAt x.z.sets) k = true := by simp only [aliasAt]; grind
            exact rnd (k + 1, _) (h1 := ⟨iv, (by first | (rw [hv, allN_yes hk2 h8]) | (dsimp only; rw [hv, allN_yes hk2 h8])), iv, trivial⟩)
  · skip
    refine dw_exit ?_
    show DW _ _ _ _ _
    refine stp In ?_
    refine dw_ret ?_
    exact fin 0 (hr := by (try simp only [go_sem, ff]); all_goals (simp only [aliasB]; rw [hv, allN_end (by omega)]))
theorem bo100 : hasBody Tryz.prog 100 = true := by kernel_rfl
theorem zcuts_ct (x : Lay) (hl : x.z.sets.length ≤ 1000000) (hb : x.b.length = x.z.sets.length) : PureCt Tryz.prog 100 [.agg x.d] (.b (cutB x)) := by
  refine pure_of_dw Tryz.func100 rfl bo100 (by simp [go_sem, D.nr, nrs, nrr]) (by simp [Tryz.f100]) ?_
  unfold Tryz.f100
  simp only [init_eq]
  have ff := True.intro
  refine stp In ?_
  refine dw_seq ?_
  refine stp In ?_
  refine dw_block ?_
  refine lp (α := (Nat) × Nat) [1, 9, 10] (fun ⟨k, nx⟩ => (k ≤ x.z.sets.length) ∧ (allN x.z.sets.length (cutAt x) 0 = allN x.z.sets.length (cutAt x) k) ∧ (0 < nx) ∧ True) (fun ⟨k, nx⟩ => x.z.sets.length - k) (fun ⟨k, nx⟩ => [(11, .i k)]) (fun ⟨k, nx⟩ => [(0, ⟨130, [x.d]⟩)]) (fun ⟨k, nx⟩ => nx) (0, _) (hA := ⟨iv, rfl, iv, trivial⟩) (round := ?_)
  rintro ⟨k, nx⟩ ⟨hk, hv, hx, -⟩
  show DW _ _ _ _ { n := _, t := tab _, h := _, nx := _, e := _ }
  simp only [List.cons_append, List.nil_append]
  have ff := And.intro @hx ff
  refine stp In ?_
  refine dw_seq ?_
  refine cd (fun c1 => ?_) (fun c1 => ?_) (hp := rfl)
  · skip
    have hk2 : k < x.z.sets.length := by simpa using c1
    have hk3 : k < x.b.length := by omega
    have ff := And.intro (getD_sgd hk2) (And.intro (getD_sR hk3) ff)
    refine dw_skip ?_
    show DW _ _ _ _ _
    refine dw_seq ?_
    refine dw_block ?_
    refine stp In ?_
    refine stp In ?_
    refine stp In ?_
    refine dw_block ?_
    refine stp In ?_
    refine cd (fun c2 => ?_) (fun c2 => ?_)
    · skip
      refine stp In ?_
      refine cd (fun c3 => ?_) (fun c3 => ?_)
      · skip
        refine stp In ?_
        refine dw_ret ?_
        exact fin 0 (hr := by (try simp only [go_sem, ff]); all_goals (have hF : (cutAt x) k = false := (by simp only [cutAt]; grind); simp only [cutB]; rw [hv, allN_no hk2 hF]; try simp))
      · skip
        refine dw_skip ?_
        show DW _ _ _ _ _
        refine rgn In ?_
        show ∃ _, _
        have h8 : (cutAt x) k = true := by simp only [cutAt]; grind
        exact rnd (k + 1, _) (h1 := ⟨iv, (by first | (rw [hv, allN_yes hk2 h8]) | (dsimp only; rw [hv, allN_yes hk2 h8])), iv, trivial⟩)
    · skip
      refine stp In ?_
      refine cd (fun c4 => ?_) (fun c4 => ?_)
      · skip
        refine stp In ?_
        refine cd (fun c5 => ?_) (fun c5 => ?_)
        · skip
          refine stp In ?_
          refine dw_ret ?_
          exact fin 0 (hr := by (try simp only [go_sem, ff]); all_goals (have hF : (cutAt x) k = false := (by simp only [cutAt]; grind); simp only [cutB]; rw [hv, allN_no hk2 hF]; try simp))
        · skip
          refine dw_skip ?_
          show DW _ _ _ _ _
          refine rgn In ?_
          show ∃ _, _
          have h8 : (cutAt x) k = true := by simp only [cutAt]; grind
          exact rnd (k + 1, _) (h1 := ⟨iv, (by first | (rw [hv, allN_yes hk2 h8]) | (dsimp only; rw [hv, allN_yes hk2 h8])), iv, trivial⟩)
      · skip
        refine stp In ?_
        refine cd (fun c6 => ?_) (fun c6 => ?_)
        · skip
          refine stp In ?_
          refine dw_ret ?_
          exact fin 0 (hr := by (try simp only [go_sem, ff]); all_goals (have hF : (cutAt x) k = false := (by simp only [cutAt]; grind); simp only [cutB]; rw [hv, allN_no hk2 hF]; try simp))
        · skip
          refine dw_skip ?_
          show DW _ _ _ _ _
          refine rgn In ?_
          show ∃ _, _
          have h8 : (cutAt x) k = true := by simp only [cutAt]; grind
          exact rnd (k + 1, _) (h1 := ⟨iv, (by first | (rw [hv, allN_yes hk2 h8]) | (dsimp only; rw [hv, allN_yes hk2 h8])), iv, trivial⟩)
  · skip
    refine dw_exit ?_
    show DW _ _ _ _ _
    refine stp In ?_
    refine dw_ret ?_
    exact fin 0 (hr := by (try simp only [go_sem, ff]); all_goals (simp only [cutB]; rw [hv, allN_end (by omega)]))
theorem bo101 : hasBody Tryz.prog 101 = true := by kernel_rfl
theorem zglue_ct (x : Lay) (hl : x.z.sets.length ≤ 1000000) (hb : x.b.length = x.z.sets.length) : PureCt Tryz.prog 101 [.agg x.d] (.b (glueB x)) := by
  refine pure_of_dw Tryz.func101 rfl bo101 (by simp [go_sem, D.nr, nrs, nrr]) (by simp [Tryz.f101]) ?_
  unfold Tryz.f101
  simp only [init_eq]
  have ff := True.intro
  refine stp In ?_
  refine dw_seq ?_
  refine stp In ?_
  refine dw_block ?_
  refine lp (α := (Nat) × Nat) [1, 9, 10] (fun ⟨k, nx⟩ => (k ≤ x.z.sets.length) ∧ (allN x.z.sets.length (glueAt x) 0 = allN x.z.sets.length (glueAt x) k) ∧ (0 < nx) ∧ True) (fun ⟨k, nx⟩ => x.z.sets.length - k) (fun ⟨k, nx⟩ => [(11, .i k)]) (fun ⟨k, nx⟩ => [(0, ⟨130, [x.d]⟩)]) (fun ⟨k, nx⟩ => nx) (0, _) (hA := ⟨iv, rfl, iv, trivial⟩) (round := ?_)
  rintro ⟨k, nx⟩ ⟨hk, hv, hx, -⟩
  show DW _ _ _ _ { n := _, t := tab _, h := _, nx := _, e := _ }
  simp only [List.cons_append, List.nil_append]
  have ff := And.intro @hx ff
  refine stp In ?_
  refine dw_seq ?_
  refine cd (fun c1 => ?_) (fun c1 => ?_) (hp := rfl)
  · skip
    have hk2 : k < x.z.sets.length := by simpa using c1
    have hk3 : k < x.b.length := by omega
    have ff := And.intro (getD_sgd hk2) (And.intro (getD_sR hk3) ff)
    refine dw_skip ?_
    show DW _ _ _ _ _
    refine dw_seq ?_
    refine dw_block ?_
    refine stp In ?_
    refine stp In ?_
    refine stp In ?_
    refine cd (fun c2 => ?_) (fun c2 => ?_)
    · skip
      refine stp In ?_
      refine dw_ret ?_
      exact fin 0 (hr := by (try simp only [go_sem, ff]); all_goals (have hF : (glueAt x) k = false := (by simp only [glueAt]; grind); simp only [glueB]; rw [hv, allN_no hk2 hF]; try simp))
    · skip
      refine dw_skip ?_
      show DW _ _ _ _ _
      refine rgn In ?_
      show ∃ _, _
      have h8 : (glueAt x) k = true := by simp only [glueAt]; grind
      exact rnd (k + 1, _) (h1 := ⟨iv, (by first | (rw [hv, allN_yes hk2 h8]) | (dsimp only; rw [hv, allN_yes hk2 h8])), iv, trivial⟩)
  · skip
    refine dw_exit ?_
    show DW _ _ _ _ _
    refine stp In ?_
    refine dw_ret ?_
    exact fin 0 (hr := by (try simp only [go_sem, ff]); all_goals (simp only [glueB]; rw [hv, allN_end (by omega)]))
theorem bo102 : hasBody Tryz.prog 102 = true := by kernel_rfl
theorem zform_ct (x : Lay) (hl : x.z.sets.length ≤ 1000000) : PureCt Tryz.prog 102 [.agg x.d] (.b (formB x)) := by
  refine pure_of_dw Tryz.func102 rfl bo102 (by simp [go_sem, D.nr, nrs, nrr]) (by simp [Tryz.f102]) ?_
  unfold Tryz.f102
  simp only [init_eq]
  have ff := True.intro
  refine stp In ?_
  refine dw_seq ?_
  refine stp In ?_
  refine dw_block ?_
  refine lp (α := (Nat) × Nat) [1, 8, 9] (fun ⟨k, nx⟩ => (k ≤ x.z.sets.length) ∧ (allN x.z.sets.length (formAt x.z) 0 = allN x.z.sets.length (formAt x.z) k) ∧ (0 < nx) ∧ True) (fun ⟨k, nx⟩ => x.z.sets.length - k) (fun ⟨k, nx⟩ => [(10, .i k)]) (fun ⟨k, nx⟩ => [(0, ⟨130, [x.d]⟩)]) (fun ⟨k, nx⟩ => nx) (0, _) (hA := ⟨iv, rfl, iv, trivial⟩) (round := ?_)
  rintro ⟨k, nx⟩ ⟨hk, hv, hx, -⟩
  show DW _ _ _ _ { n := _, t := tab _, h := _, nx := _, e := _ }
  simp only [List.cons_append, List.nil_append]
  have ff := And.intro @hx ff
  refine stp In ?_
  refine dw_seq ?_
  refine cd (fun c1 => ?_) (fun c1 => ?_) (hp := rfl)
  · skip
    have hk2 : k < x.z.sets.length := by simpa using c1
    have ff := And.intro (getD_sgd hk2) ff
    refine dw_skip ?_
    show DW _ _ _ _ _
    refine dw_seq ?_
    refine dw_block ?_
    refine stp In ?_
    refine stp In ?_ (hok := by (try simp only [go_sem, ff]); all_goals (exact zinform_ct _ _))
    refine cd (fun c2 => ?_) (fun c2 => ?_)
    · skip
      refine stp In ?_
      refine dw_ret ?_
      exact fin 0 (hr := by (try simp only [go_sem, ff]); all_goals (have hF : (formAt x.z) k = false := (by simpa only [formAt] using c2); simp only [formB]; rw [hv, allN_no hk2 hF]; try simp))
    · skip
      refine dw_skip ?_
      show DW _ _ _ _ _
      refine rgn In ?_
      show ∃ _, _
      have h8 : (formAt x.z) k = true := by simpa only [formAt] using c2
      exact rnd (k + 1, _) (h1 := ⟨iv, (by first | (rw [hv, allN_yes hk2 h8]) | (dsimp only; rw [hv, allN_yes hk2 h8])), iv, trivial⟩)
  · skip
    refine dw_exit ?_
    show DW _ _ _ _ _
    refine stp In ?_
    refine dw_ret ?_
    exact fin 0 (hr := by (try simp only [go_sem, ff]); all_goals (simp only [formB]; rw [hv, allN_end (by omega)]))

end Go.Proofs.YtipkfnkmdeopeaaGreatDoor
namespace Go.Proofs.YtipkfnkmdeopeaaGreatDoor
open Go.DL Go.Str Go.Rec Go.Cmp Go.Zon
set_option maxRecDepth 10000
set_option linter.unusedSimpArgs false
set_option linter.unusedVariables false
theorem bo98 : hasBody Tryz.prog 98 = true := by kernel_rfl
theorem zlay_ct (z : Zon) (hl : z.sets.length ≤ 1000000) : PureCt Tryz.prog 98 [.agg z.d] (.agg (layOf z).d) := by
  refine pure_of_dw Tryz.func98 rfl bo98 (by simp [go_sem, D.nr, nrs, nrr]) (by simp [Tryz.f98]) ?_
  unfold Tryz.f98
  simp only [init_eq]
  have ff := True.intro
  refine stp In ?_
  refine stp In ?_
  refine dw_seq ?_
  refine stp In ?_
  refine dw_block ?_
  refine lp (α := (Nat) × Nat) [1, 2, 3, 16, 17] (fun ⟨k, nx⟩ => (k ≤ z.sets.length) ∧ (2 < nx) ∧ True) (fun ⟨k, nx⟩ => z.sets.length - k) (fun ⟨k, nx⟩ => [(18, .i k)]) (fun ⟨k, nx⟩ => [(0, ⟨118, [z.d]⟩), (1, ⟨130, [[.v (.string (bs [])), .list true [], .list true []]]⟩), (2, ⟨155, mapRows (kvT (cutsTo z (k)))⟩)]) (fun ⟨k, nx⟩ => nx) (0, _) (hA := ⟨iv, iv, trivial⟩) (round := ?_)
  rintro ⟨k, nx⟩ ⟨hk, hx, -⟩
  show DW _ _ _ _ { n := _, t := tab _, h := _, nx := _, e := _ }
  simp only [List.cons_append, List.nil_append]
  have n0 : 0 < nx := by omega
  have n1 : 1 < nx := by omega
  have ff := And.intro @hx (And.intro @n0 (And.intro @n1 ff))
  refine stp In ?_
  refine dw_seq ?_
  refine cd (fun c1 => ?_) (fun c1 => ?_) (hp := rfl)
  · skip
    have hk2 : k < z.sets.length := by simpa using c1
    have ff := And.intro (getD_sgd hk2) ff
    refine dw_skip ?_
    show DW _ _ _ _ _
    refine dw_seq ?_
    refine dw_block ?_
    refine stp In ?_
    refine stp In ?_
    refine cd (fun c2 => ?_) (fun c2 => ?_)
    · skip
      refine rgn In ?_
      show DW _ _ _ _ _
      refine rgn In ?_
      show ∃ _, _
      have ff := And.intro (cuts_yes (z := z) (k := k) (by grind)) ff
      exact rnd (k + 1, _) (h1 := ⟨iv, iv, trivial⟩)
    · skip
      refine dw_skip ?_
      show DW _ _ _ _ _
      refine rgn In ?_
      show ∃ _, _
      have ff := And.intro (cuts_no (z := z) (k := k) (by grind)) ff
      exact rnd (k + 1, _) (h1 := ⟨iv, iv, trivial⟩)
  · skip
    refine dw_exit ?_
    show DW _ _ _ _ _
    refine dw_freezem 3 2 ev ev rfl nrs_kvT ?_
    refine stp In ?_
    refine stp In ?_
    refine dw_seq ?_
    refine stp In ?_
    refine dw_block ?_
    refine lp (α := (Nat) × (Str) × (Nat) × (Nat) × Nat) [2, 3, 49, 50] (fun ⟨k, cut, r6, rb, nx⟩ => (k ≤ z.sets.length) ∧ (rb < nx) ∧ (r6 < nx) ∧ (2 < rb ∧ rb < r6) ∧ (cut = (behTo (cutsTo z z.sets.length) z.sets k).2) ∧ True) (fun ⟨k, cut, r6, rb, nx⟩ => z.sets.length - k) (fun ⟨k, cut, r6, rb, nx⟩ => [(6, .mptr r6 0 0), (7, .v (.string (bs cut))), (51, .i k)]) (fun ⟨k, cut, r6, rb, nx⟩ => [(0, ⟨118, [z.d]⟩), (1, ⟨130, [[.v (.string (bs [])), .list true [], .list true []]]⟩), (r6, ⟨130, [[.v (.string (bs z.apex)), .list false (z.sets.map Sgd.d), .mrow rb 0 z.sets.length]]⟩), (rb, ⟨9, (rowsB (cutsTo z z.sets.length) z.sets z.sets.length (k)).map sR⟩)]) (fun ⟨k, cut, r6, rb, nx⟩ => nx) (0, [], (nx + 8), (nx + 6), _) (hA := ⟨iv, iv, iv, iv, iv, trivial⟩) (round := ?_)
    rintro ⟨k, cut, r6, rb, nx⟩ ⟨hk, hx, hx6, hbr, hc, -⟩
    show DW _ _ _ _ { n := _, t := tab _, h := _, nx := _, e := _ }
    simp only [List.cons_append, List.nil_append]
    have n0 : 0 < nx := by omega
    have n1 : 1 < nx := by omega
    have zr6_rb : (r6 = rb) = False := eq_false (by omega)
    have yrb_r6 : (rb = r6) = False := eq_false (by omega)
    have z0_rb : (0 = rb) = False := eq_false (by omega)
    have yrb_0 : (rb = 0) = False := eq_false (by omega)
    have z1_rb : (1 = rb) = False := eq_false (by omega)
    have yrb_1 : (rb = 1) = False := eq_false (by omega)
    have z0_r6 : (0 = r6) = False := eq_false (by omega)
    have yr6_0 : (r6 = 0) = False := eq_false (by omega)
    have z1_r6 : (1 = r6) = False := eq_false (by omega)
    have yr6_1 : (r6 = 1) = False := eq_false (by omega)
    have ff := And.intro @hx (And.intro @hx6 (And.intro @n0 (And.intro @n1 (And.intro @zr6_rb (And.intro @yrb_r6 (And.intro @z0_rb (And.intro @yrb_0 (And.intro @z1_rb (And.intro @yrb_1 (And.intro @z0_r6 (And.intro @yr6_0 (And.intro @z1_r6 (And.intro @yr6_1 ff)))))))))))))
    refine stp In ?_
    refine dw_seq ?_
    refine cd (fun c3 => ?_) (fun c3 => ?_) (hp := rfl)
    · skip
      have hk2 : k < z.sets.length := by simpa using c3
      have ff := And.intro (getD_sgd hk2) (And.intro (rowsB_len (m := (cutsTo z z.sets.length)) (l := z.sets) hk) (And.intro (getD_sR (l := rowsB (cutsTo z z.sets.length) z.sets z.sets.length k) (n := k) (by rw [rowsB_len hk]; exact hk2)) ff))
      refine dw_skip ?_
      show DW _ _ _ _ _
      refine dw_seq ?_
      refine dw_block ?_
      refine stp In ?_
      refine stp In ?_
      refine dw_seq ?_
      refine stp In ?_
      refine cd (fun c4 => ?_) (fun c4 => ?_)
      · skip
        refine stp In ?_ (hok := by (try simp only [go_sem, ff]); all_goals (exact nunder_ct _ _))
        refine stp In ?_
        refine cd (fun c5 => ?_) (fun c5 => ?_)
        · skip
          refine rgn In ?_
          show DW _ _ _ _ _
          refine dw_seq ?_
          refine stp In ?_
          refine cd (fun c6 => ?_) (fun c6 => ?_)
          · skip
            refine rgn In ?_
            show DW _ _ _ _ _
            refine rgn In ?_
            show DW _ _ _ _ _
            refine rgn In ?_
            show ∃ _, _
            have hcc : (behTo (cutsTo z z.sets.length) z.sets (k + 1)).2 = z.sets[k]!.set.name := by show stepC _ (behTo _ _ k).2 _ = _; rw [← hc]; simp only [stepC]; grind
            have ff := And.intro (rowsB_setD hk2 hcc) (And.intro hcc ff)
            exact rnd (k + 1, (behTo (cutsTo z z.sets.length) z.sets (k + 1)).2, r6, rb, _) (h1 := ⟨iv, iv, iv, iv, iv, trivial⟩)
          · skip
            refine dw_skip ?_
            show DW _ _ _ _ _
            refine rgn In ?_
            show DW _ _ _ _ _
            refine rgn In ?_
            show ∃ _, _
            have hcc : (behTo (cutsTo z z.sets.length) z.sets (k + 1)).2 = [] := by show stepC _ (behTo _ _ k).2 _ = _; rw [← hc]; simp only [stepC]; grind
            have ff := And.intro (rowsB_setD hk2 hcc) (And.intro hcc ff)
            exact rnd (k + 1, (behTo (cutsTo z z.sets.length) z.sets (k + 1)).2, r6, rb, _) (h1 := ⟨iv, iv, iv, iv, iv, trivial⟩)
        · skip
          refine dw_skip ?_
          show DW _ _ _ _ _
          refine dw_seq ?_
          refine stp In ?_
          refine cd (fun c6 => ?_) (fun c6 => ?_)
          · skip
            refine rgn In ?_
            show DW _ _ _ _ _
            refine rgn In ?_
            show DW _ _ _ _ _
            refine rgn In ?_
            show ∃ _, _
            have hcc : (behTo (cutsTo z z.sets.length) z.sets (k + 1)).2 = z.sets[k]!.set.name := by show stepC _ (behTo _ _ k).2 _ = _; rw [← hc]; simp only [stepC]; grind
            have ff := And.intro (rowsB_setD hk2 hcc) (And.intro hcc ff)
            exact rnd (k + 1, (behTo (cutsTo z z.sets.length) z.sets (k + 1)).2, r6, rb, _) (h1 := ⟨iv, iv, iv, iv, iv, trivial⟩)
          · skip
            refine dw_skip ?_
            show DW _ _ _ _ _
            refine rgn In ?_
            show DW _ _ _ _ _
            refine rgn In ?_
            show ∃ _, _
            have hcc : (behTo (cutsTo z z.sets.length) z.sets (k + 1)).2 = cut := by show stepC _ (behTo _ _ k).2 _ = _; rw [← hc]; simp only [stepC]; grind
            have ff := And.intro (rowsB_setD hk2 hcc) (And.intro hcc ff)
            exact rnd (k + 1, (behTo (cutsTo z z.sets.length) z.sets (k + 1)).2, r6, rb, _) (h1 := ⟨iv, iv, iv, iv, iv, trivial⟩)
      · skip
        refine dw_skip ?_
        show DW _ _ _ _ _
        refine dw_seq ?_
        refine stp In ?_
        refine cd (fun c6 => ?_) (fun c6 => ?_)
        · skip
          refine rgn In ?_
          show DW _ _ _ _ _
          refine rgn In ?_
          show DW _ _ _ _ _
          refine rgn In ?_
          show ∃ _, _
          have hcc : (behTo (cutsTo z z.sets.length) z.sets (k + 1)).2 = z.sets[k]!.set.name := by show stepC _ (behTo _ _ k).2 _ = _; rw [← hc]; simp only [stepC]; grind
          have ff := And.intro (rowsB_setD hk2 hcc) (And.intro hcc ff)
          exact rnd (k + 1, (behTo (cutsTo z z.sets.length) z.sets (k + 1)).2, r6, rb, _) (h1 := ⟨iv, iv, iv, iv, iv, trivial⟩)
        · skip
          refine dw_skip ?_
          show DW _ _ _ _ _
          refine rgn In ?_
          show DW _ _ _ _ _
          refine rgn In ?_
          show ∃ _, _
          have hcc : (behTo (cutsTo z z.sets.length) z.sets (k + 1)).2 = cut := by show stepC _ (behTo _ _ k).2 _ = _; rw [← hc]; simp only [stepC]; grind
          have ff := And.intro (rowsB_setD hk2 hcc) (And.intro hcc ff)
          exact rnd (k + 1, (behTo (cutsTo z z.sets.length) z.sets (k + 1)).2, r6, rb, _) (h1 := ⟨iv, iv, iv, iv, iv, trivial⟩)
    · skip
      refine dw_exit ?_
      show DW _ _ _ _ _
      have e9 : k = z.sets.length := by omega
      subst e9
      have tk : List.take z.sets.length ((rowsB (cutsTo z z.sets.length) z.sets z.sets.length z.sets.length).map sR) = (behOf z).map sR := by rw [rowsB_n]; exact List.take_of_length_le (by rw [List.length_map, behTo_len]; exact Nat.le_refl _)
      have ff := And.intro @tk (And.intro (rowsB_len (m := (cutsTo z z.sets.length)) (l := z.sets) (Nat.le_refl z.sets.length)) ff)
      refine stp In ?_
      refine dw_ret ?_
      exact fin 2 (hr := by (try simp only [go_sem, ff]); all_goals (rfl)) (hk := by (try simp only [go_sem, ff]); all_goals (exact behOf_len z))
theorem bo55 : hasBody Tryz.prog 55 = true := by kernel_rfl
theorem zvalid_ct (z : Zon) : PureCt Tryz.prog 55 [.agg z.d] (.b (zoneOk z)) := by
  refine pure_of_dw Tryz.func55 rfl bo55 (by simp [go_sem, D.nr, nrs, nrr]) (by simp [Tryz.f55]) ?_
  unfold Tryz.f55
  simp only [init_eq]
  have ff := True.intro
  refine stp In ?_
  refine stp In ?_
  refine dw_seq ?_
  refine stp In ?_ (hok := by (try simp only [go_sem, ff]); all_goals (first | done | ((repeat' (with_reducible apply And.intro)) <;> first | exact zordered_ct z | (intros; exact zordered_ct z) | (intro h; exact zapex_ct z (ord_len h)) | (intros; simp_all; done) | skip)))
  refine cd (fun c1 => ?_) (fun c1 => ?_)
  · skip
    refine stp In ?_
    refine dw_ret ?_
    exact fin 0 (hr := by (try simp only [go_sem, ff]); all_goals (simp only [zoneOk]; grind))
  · skip
    refine dw_skip ?_
    show DW _ _ _ _ _
    have ho := ord_len c1.1
    refine stp In ?_ (hok := by (try simp only [go_sem, ff]); all_goals (exact zlay_ct z ho))
    refine stp In ?_ (hok := by (try simp only [go_sem, ff]); all_goals (first | done | ((repeat' (with_reducible apply And.intro)) <;> first | exact zalias_ct (layOf z) ho | (intros; exact zalias_ct (layOf z) ho) | exact zcuts_ct (layOf z) ho (behOf_len z) | (intros; exact zcuts_ct (layOf z) ho (behOf_len z)) | exact zglue_ct (layOf z) ho (behOf_len z) | (intros; exact zglue_ct (layOf z) ho (behOf_len z)) | exact zform_ct (layOf z) ho | (intros; exact zform_ct (layOf z) ho) | skip)))
    refine dw_ret ?_
    exact fin 0 (hr := by (try simp only [go_sem, ff]); all_goals (simp only [zoneOk]; rw [c1.1, c1.2]; simp [Bool.and_assoc]))
theorem bo45 : hasBody Tryz.prog 45 = true := by kernel_rfl
theorem zserial_ct (z : Zon) : PureCt Tryz.prog 45 [.agg z.d] (.tuple [.i (if zoneOk z then serialOf z else 0), .i (if zoneOk z then 0 else 1)]) := by
  refine pure_of_dw Tryz.func45 rfl bo45 (by simp [go_sem, D.nr, nrs, nrr]) (by simp [Tryz.f45]) ?_
  unfold Tryz.f45
  simp only [init_eq]
  have ff := True.intro
  refine stp In ?_
  refine dw_seq ?_
  refine stp In ?_ (hok := by (try simp only [go_sem, ff]); all_goals (exact zvalid_ct z))
  refine cd (fun c1 => ?_) (fun c1 => ?_)
  · skip
    refine stp In ?_
    refine dw_ret ?_
    exact fin 1 (hr := by (try simp only [go_sem, ff]); all_goals (simp [c1]))
  · skip
    refine dw_skip ?_
    show DW _ _ _ _ _
    refine stp In ?_ (hok := by (try simp only [go_sem, ff]); all_goals (exact zfind_ct z ⟨z.apex, 4⟩ (ok_len c1)))
    obtain ⟨hf1, hf2⟩ := start_at c1
    have ff := And.intro (getD_sgd hf1) (And.intro (getD_dat hf2) ff)
    refine stp In ?_
    refine dw_ret ?_
    exact fin 1 (hr := by (try simp only [go_sem, ff]); all_goals (simp [c1, serialOf]))

end Go.Proofs.YtipkfnkmdeopeaaGreatDoor
namespace Go.Proofs.YtipkfnkmdeopeaaGreatDoor
open Go.DL Go.Str Go.Rec Go.Cmp Go.Zon
set_option maxRecDepth 10000
set_option linter.unusedSimpArgs false
set_option linter.unusedVariables false
theorem sig_eqF {x y : RSig} (h : x.zone = y.zone ∧ x.key = y.key ∧ x.alg = y.alg ∧ x.frm = y.frm ∧ x.unt = y.unt ∧ x.sum = y.sum) : x = y := by
  obtain ⟨a, b, c, d, e, f⟩ := x
  obtain ⟨g, i, j, k, l, m⟩ := y
  simp at h
  simp [h]
theorem sig_neF {x y : RSig} (h : ¬x.zone = y.zone ∨ ¬x.key = y.key ∨ ¬x.alg = y.alg ∨ ¬x.frm = y.frm ∨ ¬x.unt = y.unt ∨ ¬x.sum = y.sum) : x ≠ y := by
  rintro rfl
  simp at h
theorem bo74 : hasBody Tryz.prog 74 = true := by kernel_rfl
theorem rsamesg_ct (a : Sgd) (b : Sgd) (ha : fit1 a) : PureCt Tryz.prog 74 [.agg a.d, .agg b.d] (.b (sameSgd a b)) := by
  refine pure_of_dw Tryz.func74 rfl bo74 (by simp [go_sem, D.nr, nrs, nrr]) (by simp [Tryz.f74]) ?_
  unfold Tryz.f74
  simp only [init_eq]
  have ff := True.intro
  have ha2 := ha.2
  refine stp In ?_
  refine dw_seq ?_
  refine stp In ?_ (hok := by (try simp only [go_sem, ff]); all_goals (first | done | ((repeat' (with_reducible apply And.intro)) <;> first | exact rsame02_ct _ _ ha.1 | (intros; exact rsame02_ct _ _ ha.1) | skip)))
  refine cd (fun c1 => ?_) (fun c1 => ?_)
  · skip
    refine stp In ?_
    refine dw_ret ?_
    exact fin 0 (hr := by (try simp only [go_sem, ff]); all_goals (rw [sgd_not1 (by grind [sameB])]))
  · skip
    refine dw_skip ?_
    show DW _ _ _ _ _
    refine dw_seq ?_
    refine stp In ?_
    refine dw_block ?_
    refine lp (α := (Nat) × Nat) [2, 3] (fun ⟨k, nx⟩ => (k ≤ a.sigs.length) ∧ (1 < nx) ∧ (∀ i, i < k → a.sigs[i]! = b.sigs[i]!) ∧ True) (fun ⟨k, nx⟩ => a.sigs.length - k) (fun ⟨k, nx⟩ => [(5, .i k)]) (fun ⟨k, nx⟩ => [(0, ⟨86, [a.d]⟩), (1, ⟨86, [b.d]⟩)]) (fun ⟨k, nx⟩ => nx) (0, _) (hA := ⟨iv, iv, (by first | (intro i hi; omega) | (dsimp only; intro i hi; omega)), trivial⟩) (round := ?_)
    rintro ⟨k, nx⟩ ⟨hk, hx, hv, -⟩
    show DW _ _ _ _ { n := _, t := tab _, h := _, nx := _, e := _ }
    simp only [List.cons_append, List.nil_append]
    have n0 : 0 < nx := by omega
    have ff := And.intro @hx (And.intro @n0 ff)
    refine dw_seq ?_
    refine stp In ?_
    refine cd (fun c2 => ?_) (fun c2 => ?_) (hp := rfl)
    · skip
      have hk2 : k < a.sigs.length := by simpa using c2
      have hk3 : k < b.sigs.length := by grind
      have ff := And.intro (getD_sig hk2) (And.intro (getD_sig hk3) ff)
      refine dw_skip ?_
      show DW _ _ _ _ _
      refine dw_seq ?_
      refine dw_block ?_
      refine stp In ?_
      refine cd (fun c3 => ?_) (fun c3 => ?_)
      · skip
        refine stp In ?_
        refine dw_ret ?_
        exact fin 0 (hr := by (try simp only [go_sem, ff]); all_goals (rw [sgd_not2 (sig_neF c3)]))
      · skip
        refine dw_skip ?_
        show DW _ _ _ _ _
        refine rgn In ?_
        show ∃ _, _
        exact rnd (k + 1, _) (h1 := ⟨iv, iv, (by (try dsimp only); intro i hi; by_cases e : i = k; subst e; exact sig_eqF c3; exact hv i (by omega)), trivial⟩)
    · skip
      refine dw_exit ?_
      show DW _ _ _ _ _
      refine stp In ?_
      refine dw_ret ?_
      exact fin 0 (hr := by (try simp only [go_sem, ff]); all_goals (rw [sgd_same (by grind [sameB]) (by grind) fun i hi => hv i (by omega)]))
theorem bo46 : hasBody Tryz.prog 46 = true := by kernel_rfl
theorem rsamel_ct (a : List Sgd) (b : List Sgd) (ha : fitL a) : PureCt Tryz.prog 46 [.list false (a.map Sgd.d), .list false (b.map Sgd.d)] (.b (sameList a b)) := by
  refine pure_of_dw Tryz.func46 rfl bo46 (by simp [go_sem, D.nr, nrs, nrr]) (by simp [Tryz.f46]) ?_
  unfold Tryz.f46
  simp only [init_eq]
  have ff := True.intro
  have ha1 := ha.1
  refine stp In ?_
  refine dw_seq ?_
  refine stp In ?_
  refine cd (fun c1 => ?_) (fun c1 => ?_)
  · skip
    refine stp In ?_
    refine dw_ret ?_
    exact fin 0 (hr := by (try simp only [go_sem, ff]); all_goals (rw [sgds_len (by grind)]))
  · skip
    refine dw_skip ?_
    show DW _ _ _ _ _
    refine dw_seq ?_
    refine stp In ?_
    refine dw_block ?_
    refine lp (α := (Nat) × Nat) [0, 1] (fun ⟨k, nx⟩ => (k ≤ a.length) ∧ (∀ i, i < k → sameSgd a[i]! b[i]! = true) ∧ True) (fun ⟨k, nx⟩ => a.length - k) (fun ⟨k, nx⟩ => [(5, .i k)]) (fun ⟨k, nx⟩ => []) (fun ⟨k, nx⟩ => nx) (0, _) (hA := ⟨iv, (by first | (intro i hi; omega) | (dsimp only; intro i hi; omega)), trivial⟩) (round := ?_)
    rintro ⟨k, nx⟩ ⟨hk, hv, -⟩
    show DW _ _ _ _ { n := _, t := tab _, h := _, nx := _, e := _ }
    simp only [List.cons_append, List.nil_append]
    refine dw_seq ?_
    refine stp In ?_
    refine cd (fun c2 => ?_) (fun c2 => ?_) (hp := rfl)
    · skip
      have hk2 : k < a.length := by simpa using c2
      have hk3 : k < b.length := by grind
      have ff := And.intro (getD_sgd hk2) (And.intro (getD_sgd hk3) ff)
      refine dw_skip ?_
      show DW _ _ _ _ _
      refine dw_seq ?_
      refine dw_block ?_
      refine stp In ?_ (hok := by (try simp only [go_sem, ff]); all_goals (first | done | ((repeat' (with_reducible apply And.intro)) <;> first | exact rsamesg_ct _ _ (ha.2 k hk2) | (intros; exact rsamesg_ct _ _ (ha.2 k hk2)) | omega | skip)))
      refine cd (fun c3 => ?_) (fun c3 => ?_)
      · skip
        refine stp In ?_
        refine dw_ret ?_
        exact fin 0 (hr := by (try simp only [go_sem, ff]); all_goals (rw [sgd_not3 (k := k) (by grind)]))
      · skip
        refine dw_skip ?_
        show DW _ _ _ _ _
        refine rgn In ?_
        show ∃ _, _
        exact rnd (k + 1, _) (h1 := ⟨iv, (by (try dsimp only); intro i hi; by_cases e : i = k; subst e; grind; exact hv i (by omega)), trivial⟩)
    · skip
      refine dw_exit ?_
      show DW _ _ _ _ _
      refine stp In ?_
      refine dw_ret ?_
      exact fin 0 (hr := by (try simp only [go_sem, ff]); all_goals (rw [sgds_same (by grind) fun i hi => hv i (by omega)]))
theorem bo22 : hasBody Tryz.prog 22 = true := by kernel_rfl
theorem rsamez_ct (a : Zon) (b : Zon) (ha : fitL a.sets) : PureCt Tryz.prog 22 [.agg a.d, .agg b.d] (.b (sameZ a b)) := by
  refine pure_of_dw Tryz.func22 rfl bo22 (by simp [go_sem, D.nr, nrs, nrr]) (by simp [Tryz.f22]) ?_
  unfold Tryz.f22
  simp only [init_eq]
  have ff := True.intro
  refine stp In ?_
  refine stp In ?_ (hok := by (try simp only [go_sem, ff]); all_goals (first | done | ((repeat' (with_reducible apply And.intro)) <;> first | exact rsamel_ct _ _ ha | (intros; exact rsamel_ct _ _ ha) | skip)))
  refine dw_ret ?_
  exact fin 0 (hr := by (try simp only [go_sem, ff]); all_goals (simp [sameZ_eq]))
theorem bo47 : hasBody Tryz.prog 47 = true := by kernel_rfl
theorem rat06_ct (z : Zon) (q : Qst) (hl : z.sets.length ≤ 1000000) : PureCt Tryz.prog 47 [.agg z.d, .agg q.d] (.i (atF z.sets q)) := by
  refine pure_of_dw Tryz.func47 rfl bo47 (by simp [go_sem, D.nr, nrs, nrr]) (by simp [Tryz.f47]) ?_
  unfold Tryz.f47
  simp only [init_eq]
  have ff := True.intro
  refine stp In ?_
  refine dw_seq ?_
  refine stp In ?_
  refine dw_block ?_
  refine lp (α := (Nat) × Nat) [2, 3] (fun ⟨k, nx⟩ => (k ≤ z.sets.length) ∧ (1 < nx) ∧ (atF z.sets q = ixFrom z.sets q k) ∧ True) (fun ⟨k, nx⟩ => z.sets.length - k) (fun ⟨k, nx⟩ => [(5, .i k)]) (fun ⟨k, nx⟩ => [(0, ⟨24, [z.d]⟩), (1, ⟨89, [q.d]⟩)]) (fun ⟨k, nx⟩ => nx) (0, _) (hA := ⟨iv, iv, rfl, trivial⟩) (round := ?_)
  rintro ⟨k, nx⟩ ⟨hk, hx, hv, -⟩
  show DW _ _ _ _ { n := _, t := tab _, h := _, nx := _, e := _ }
  simp only [List.cons_append, List.nil_append]
  have n0 : 0 < nx := by omega
  have ff := And.intro @hx (And.intro @n0 ff)
  refine dw_seq ?_
  refine stp In ?_
  refine cd (fun c1 => ?_) (fun c1 => ?_) (hp := rfl)
  · skip
    have hk2 : k < z.sets.length := by simpa using c1
    have ff := And.intro (getD_sgd hk2) ff
    refine dw_skip ?_
    show DW _ _ _ _ _
    refine dw_seq ?_
    refine dw_block ?_
    refine stp In ?_
    refine cd (fun c2 => ?_) (fun c2 => ?_)
    · skip
      refine stp In ?_
      refine dw_ret ?_
      exact fin 0 (hr := by (try simp only [go_sem, ff]); all_goals (rw [hv, ixFrom_eq, if_pos hk2, if_pos (by cases q; simp_all [Sgd.q])]))
    · skip
      refine dw_skip ?_
      show DW _ _ _ _ _
      refine rgn In ?_
      show ∃ _, _
      exact rnd (k + 1, _) (h1 := ⟨iv, iv, (by (try dsimp only); rw [hv, ixFrom_eq, if_pos hk2, if_neg (by intro e; rw [← e] at c2; simp [Sgd.q] at c2)]), trivial⟩)
  · skip
    refine dw_exit ?_
    show DW _ _ _ _ _
    refine stp In ?_
    refine dw_ret ?_
    exact fin 0 (hr := by (try simp only [go_sem, ff]); all_goals (rw [hv, ixFrom_eq, if_neg (by omega)]))
theorem bo50 : hasBody Tryz.prog 50 = true := by kernel_rfl
theorem r06two_ct (z : Zon) (hl : z.sets.length ≤ 1000000) : PureCt Tryz.prog 50 [.agg z.d] (.b (twoB z)) := by
  refine pure_of_dw Tryz.func50 rfl bo50 (by simp [go_sem, D.nr, nrs, nrr]) (by simp [Tryz.f50]) ?_
  unfold Tryz.f50
  simp only [init_eq]
  have ff := True.intro
  refine stp In ?_
  refine dw_seq ?_
  refine stp In ?_ (hok := by (try simp only [go_sem, ff]); all_goals (first | done | ((repeat' (with_reducible apply And.intro)) <;> first | exact rat06_ct z ⟨z.apex, 4⟩ hl | (intros; exact rat06_ct z ⟨z.apex, 4⟩ hl) | exact rat06_ct z ⟨z.apex, 2⟩ hl | (intros; exact rat06_ct z ⟨z.apex, 2⟩ hl) | skip)))
  refine cd (fun c1 => ?_) (fun c1 => ?_)
  · skip
    refine stp In ?_
    refine dw_ret ?_
    exact fin 0 (hr := by (try simp only [go_sem, ff]); all_goals (simp only [twoB]; grind))
  · skip
    refine dw_skip ?_
    show DW _ _ _ _ _
    refine dw_seq ?_
    refine stp In ?_
    refine dw_block ?_
    refine lp (α := (Nat) × Nat) [1] (fun ⟨k, nx⟩ => (k ≤ z.sets.length) ∧ (allN z.sets.length (fitAt z.apex z.sets) 0 = allN z.sets.length (fitAt z.apex z.sets) k) ∧ (0 < nx) ∧ True) (fun ⟨k, nx⟩ => z.sets.length - k) (fun ⟨k, nx⟩ => [(3, .i k)]) (fun ⟨k, nx⟩ => [(0, ⟨24, [z.d]⟩)]) (fun ⟨k, nx⟩ => nx) (0, _) (hA := ⟨iv, rfl, iv, trivial⟩) (round := ?_)
    rintro ⟨k, nx⟩ ⟨hk, hv, hx, -⟩
    show DW _ _ _ _ { n := _, t := tab _, h := _, nx := _, e := _ }
    simp only [List.cons_append, List.nil_append]
    have ff := And.intro @hx ff
    refine dw_seq ?_
    refine stp In ?_
    refine cd (fun c2 => ?_) (fun c2 => ?_) (hp := rfl)
    · skip
      have hk2 : k < z.sets.length := by simpa using c2
      have ff := And.intro (getD_sgd hk2) ff
      refine dw_skip ?_
      show DW _ _ _ _ _
      refine dw_seq ?_
      refine dw_block ?_
      refine stp In ?_ (hok := by (try simp only [go_sem, ff]); all_goals (first | done | ((repeat' (with_reducible apply And.intro)) <;> first | exact rplaced_ct _ _ | (intros; exact rplaced_ct _ _) | omega | skip)))
      refine cd (fun c3 => ?_) (fun c3 => ?_)
      · skip
        refine stp In ?_
        refine dw_ret ?_
        exact fin 0 (hr := by (try simp only [go_sem, ff]); all_goals (have hF : (fitAt z.apex z.sets) k = false := (by simp only [fitAt]; grind); simp only [twoB]; rw [hv, allN_no hk2 hF]; try simp))
      · skip
        refine dw_skip ?_
        show DW _ _ _ _ _
        refine rgn In ?_
        show ∃ _, _
        have h8 : (fitAt z.apex z.sets) k = true := by simp only [fitAt]; grind
        exact rnd (k + 1, _) (h1 := ⟨iv, (by first | (rw [hv, allN_yes hk2 h8]) | (dsimp only; rw [hv, allN_yes hk2 h8])), iv, trivial⟩)
    · skip
      refine dw_exit ?_
      show DW _ _ _ _ _
      refine stp In ?_
      refine dw_ret ?_
      exact fin 0 (hr := by (try simp only [go_sem, ff]); all_goals (simp only [twoB]; rw [hv, allN_end (by omega)]; grind))
theorem bo49 : hasBody Tryz.prog 49 = true := by kernel_rfl
theorem r06one_ct (z : Zon) : PureCt Tryz.prog 49 [.agg z.d] (.b (oneB z)) := by
  refine pure_of_dw Tryz.func49 rfl bo49 (by simp [go_sem, D.nr, nrs, nrr]) (by simp [Tryz.f49]) ?_
  unfold Tryz.f49
  simp only [init_eq]
  have ff := True.intro
  refine stp In ?_
  refine dw_seq ?_
  refine stp In ?_ (hok := by (try simp only [go_sem, ff]); all_goals (first | done | ((repeat' (with_reducible apply And.intro)) <;> first | exact rnvalid_ct _ | (intros; exact rnvalid_ct _) | exact (fun _ => rwild1_ct _ (by have := nameOk_len (by assumption); omega)) | (intros; exact (fun _ => rwild1_ct _ (by have := nameOk_len (by assumption); omega))) | exact (fun h => rwild1_ct _ (by have := nameOk_len (by simpa using h); omega)) | (intros; exact (fun h => rwild1_ct _ (by have := nameOk_len (by simpa using h); omega))) | skip)))
  refine cd (fun c1 => ?_) (fun c1 => ?_)
  · skip
    refine stp In ?_
    refine dw_ret ?_
    exact fin 0 (hr := by (try simp only [go_sem, ff]); all_goals (simp only [oneB]; grind))
  · skip
    refine dw_skip ?_
    show DW _ _ _ _ _
    refine dw_seq ?_
    refine stp In ?_
    refine dw_block ?_
    refine lp (α := (Nat) × Nat) [1] (fun ⟨k, nx⟩ => (k ≤ z.sets.length) ∧ (allN z.sets.length (oneAt z.apex z.sets) 0 = allN z.sets.length (oneAt z.apex z.sets) k) ∧ (0 < nx) ∧ True) (fun ⟨k, nx⟩ => z.sets.length - k) (fun ⟨k, nx⟩ => [(3, .i k)]) (fun ⟨k, nx⟩ => [(0, ⟨24, [z.d]⟩)]) (fun ⟨k, nx⟩ => nx) (0, _) (hA := ⟨iv, rfl, iv, trivial⟩) (round := ?_)
    rintro ⟨k, nx⟩ ⟨hk, hv, hx, -⟩
    show DW _ _ _ _ { n := _, t := tab _, h := _, nx := _, e := _ }
    simp only [List.cons_append, List.nil_append]
    have ff := And.intro @hx ff
    refine dw_seq ?_
    refine stp In ?_
    refine cd (fun c2 => ?_) (fun c2 => ?_) (hp := rfl)
    · skip
      have hk2 : k < z.sets.length := by simpa using c2
      have hk1 : k - 1 < z.sets.length := by omega
      have e1 : ((k:Int) - 1).toNat = k - 1 := by omega
      have ff := And.intro (getD_sgd hk2) (And.intro (getD_sgd hk1) (And.intro @e1 ff))
      refine dw_skip ?_
      show DW _ _ _ _ _
      refine dw_seq ?_
      refine dw_block ?_
      refine stp In ?_
      refine stp In ?_ (hok := by (try simp only [go_sem, ff]); all_goals (first | done | ((repeat' (with_reducible apply And.intro)) <;> first | exact rrvalid_ct _ | (intros; exact rrvalid_ct _) | exact rord02_ct _ _ | (intros; exact rord02_ct _ _) | exact (fun h => rin1_ct _ _ (set_nm (by simpa using h)) (by have := nameOk_len c1.1.1; omega)) | (intros; exact (fun h => rin1_ct _ _ (set_nm (by simpa using h)) (by have := nameOk_len c1.1.1; omega))) | omega | (intro h; simp only [Bool.and_eq_true, decide_eq_true_eq] at h; omega) | (intros; simp_all; done) | skip)))
      refine cd (fun c3 => ?_) (fun c3 => ?_)
      · skip
        refine stp In ?_
        refine dw_ret ?_
        exact fin 0 (hr := by (try simp only [go_sem, ff]); all_goals (have hF : (oneAt z.apex z.sets) k = false := (by simp only [oneAt]; grind); simp only [oneB]; rw [hv, allN_no hk2 hF]; try simp))
      · skip
        refine dw_skip ?_
        show DW _ _ _ _ _
        refine rgn In ?_
        show ∃ _, _
        have h8 : (oneAt z.apex z.sets) k = true := by simp only [oneAt]; grind
        exact rnd (k + 1, _) (h1 := ⟨iv, (by first | (rw [hv, allN_yes hk2 h8]) | (dsimp only; rw [hv, allN_yes hk2 h8])), iv, trivial⟩)
    · skip
      refine dw_exit ?_
      show DW _ _ _ _ _
      refine stp In ?_
      refine dw_ret ?_
      exact fin 0 (hr := by (try simp only [go_sem, ff]); all_goals (simp only [oneB]; rw [hv, allN_end (by omega)]; grind))
theorem bo25 : hasBody Tryz.prog 25 = true := by kernel_rfl
theorem r06serial_ct (z : Zon) (hl : z.sets.length ≤ 1000000) (h0 : 0 ≤ atF z.sets ⟨z.apex, 4⟩) (h1 : 0 < z.sets[(atF z.sets ⟨z.apex, 4⟩).toNat]!.set.data.length) : PureCt Tryz.prog 25 [.agg z.d] (.i (serialR z)) := by
  refine pure_of_dw Tryz.func25 rfl bo25 (by simp [go_sem, D.nr, nrs, nrr]) (by simp [Tryz.f25]) ?_
  unfold Tryz.f25
  simp only [init_eq]
  have ff := True.intro
  have h2 := atF_lt z.sets ⟨z.apex, 4⟩
  have h3 : (atF z.sets ⟨z.apex, 4⟩).toNat < z.sets.length := by omega
  refine stp In ?_
  skip
  have ff := And.intro (getD_sgd h3) (And.intro (getD_dat h1) ff)
  refine stp In ?_ (hok := by (try simp only [go_sem, ff]); all_goals (first | done | ((repeat' (with_reducible apply And.intro)) <;> first | exact rat06_ct z ⟨z.apex, 4⟩ hl | (intros; exact rat06_ct z ⟨z.apex, 4⟩ hl) | omega | skip)))
  refine dw_ret ?_
  exact fin 0 (hr := by (try simp only [go_sem, ff]); all_goals (rfl))
theorem bo26 : hasBody Tryz.prog 26 = true := by kernel_rfl
theorem r06few_ct (z : Zon) : PureCt Tryz.prog 26 [.agg z.d] (.b (fewZ z)) := by
  refine pure_of_dw Tryz.func26 rfl bo26 (by simp [go_sem, D.nr, nrs, nrr]) (by simp [Tryz.f26]) ?_
  unfold Tryz.f26
  simp only [init_eq]
  have ff := True.intro
  refine stp In ?_
  refine dw_seq ?_
  refine stp In ?_
  refine dw_block ?_
  refine lp (α := (Nat) × Nat) [1] (fun ⟨k, nx⟩ => (k ≤ z.sets.length) ∧ (allN z.sets.length (fun i => decide (z.sets[i]!.set.data.length ≤ 20) && decide (z.sets[i]!.sigs.length ≤ 20)) 0 = allN z.sets.length (fun i => decide (z.sets[i]!.set.data.length ≤ 20) && decide (z.sets[i]!.sigs.length ≤ 20)) k) ∧ (0 < nx) ∧ (k ≤ 101) ∧ True) (fun ⟨k, nx⟩ => z.sets.length - k) (fun ⟨k, nx⟩ => [(3, .i k)]) (fun ⟨k, nx⟩ => [(0, ⟨24, [z.d]⟩)]) (fun ⟨k, nx⟩ => nx) (0, _) (hA := ⟨iv, rfl, iv, iv, trivial⟩) (round := ?_)
  rintro ⟨k, nx⟩ ⟨hk, hv, hx, hk7, -⟩
  show DW _ _ _ _ { n := _, t := tab _, h := _, nx := _, e := _ }
  simp only [List.cons_append, List.nil_append]
  have ff := And.intro @hx ff
  refine dw_seq ?_
  refine stp In ?_
  refine cd (fun c1 => ?_) (fun c1 => ?_)
  · skip
    have hk2 : k < z.sets.length := by grind
    have hk9 : k ≤ 100 := by grind
    have ff := And.intro (getD_sgd hk2) ff
    refine dw_skip ?_
    show DW _ _ _ _ _
    refine dw_seq ?_
    refine dw_block ?_
    refine stp In ?_
    refine cd (fun c2 => ?_) (fun c2 => ?_)
    · skip
      refine stp In ?_
      refine dw_ret ?_
      exact fin 0 (hr := by (try simp only [go_sem, ff]); all_goals (have hF : (fun i => decide (z.sets[i]!.set.data.length ≤ 20) && decide (z.sets[i]!.sigs.length ≤ 20)) k = false := (by grind); simp only [fewZ]; rw [hv, allN_no hk2 hF]; try simp))
    · skip
      refine dw_skip ?_
      show DW _ _ _ _ _
      refine rgn In ?_
      show ∃ _, _
      have h8 : (fun i => decide (z.sets[i]!.set.data.length ≤ 20) && decide (z.sets[i]!.sigs.length ≤ 20)) k = true := by grind
      exact rnd (k + 1, _) (h1 := ⟨iv, (by first | (rw [hv, allN_yes hk2 h8]) | (dsimp only; rw [hv, allN_yes hk2 h8])), iv, iv, trivial⟩)
  · skip
    refine dw_exit ?_
    show DW _ _ _ _ _
    refine stp In ?_
    refine dw_ret ?_
    exact fin 0 (hr := by (try simp only [go_sem, ff]); all_goals (simp only [fewZ]; by_cases h100 : z.sets.length ≤ 100; rw [hv, allN_end (by grind)]; simp; omega; simp [h100]; omega))
theorem bo51 : hasBody Tryz.prog 51 = true := by kernel_rfl
theorem r06three_ct (z : Zon) (hl : z.sets.length ≤ 1000000) : PureCt Tryz.prog 51 [.agg z.d] (.b (threeB z)) := by
  refine pure_of_dw Tryz.func51 rfl bo51 (by simp [go_sem, D.nr, nrs, nrr]) (by simp [Tryz.f51]) ?_
  unfold Tryz.f51
  simp only [init_eq]
  have ff := True.intro
  refine stp In ?_
  refine stp In ?_
  refine dw_seq ?_
  refine stp In ?_
  refine dw_block ?_
  refine lp (α := (Nat) × (Str) × Nat) [1] (fun ⟨k, al, nx⟩ => (k ≤ z.sets.length) ∧ (0 < nx) ∧ (al = aliasTo z.sets k) ∧ (allN z.sets.length (threeAt z.sets) 0 = allN z.sets.length (threeAt z.sets) k) ∧ True) (fun ⟨k, al, nx⟩ => z.sets.length - k) (fun ⟨k, al, nx⟩ => [(3, .v (.string (bs al))), (4, .i k)]) (fun ⟨k, al, nx⟩ => [(0, ⟨24, [z.d]⟩)]) (fun ⟨k, al, nx⟩ => nx) (0, [], _) (hA := ⟨iv, iv, rfl, rfl, trivial⟩) (round := ?_)
  rintro ⟨k, al, nx⟩ ⟨hk, hx, ha, hv, -⟩
  show DW _ _ _ _ { n := _, t := tab _, h := _, nx := _, e := _ }
  simp only [List.cons_append, List.nil_append]
  have ff := And.intro @hx ff
  refine dw_seq ?_
  refine stp In ?_
  refine cd (fun c1 => ?_) (fun c1 => ?_) (hp := rfl)
  · skip
    have hk2 : k < z.sets.length := by simpa using c1
    have hk1 : k - 1 < z.sets.length := by omega
    have e1 : ((k:Int) - 1).toNat = k - 1 := by omega
    have ff := And.intro (getD_sgd hk2) (And.intro (getD_sgd hk1) (And.intro @e1 ff))
    refine dw_skip ?_
    show DW _ _ _ _ _
    refine dw_seq ?_
    refine dw_block ?_
    refine dw_seq ?_
    refine stp In ?_
    refine cd (fun c2 => ?_) (fun c2 => ?_)
    · skip
      refine rgn In ?_
      show DW _ _ _ _ _
      refine stp In ?_
      refine stp In ?_
      refine dw_seq ?_
      refine stp In ?_
      refine cd (fun c3 => ?_) (fun c3 => ?_)
      · skip
        refine rgn In ?_
        show DW _ _ _ _ _
        refine stp In ?_ (hok := by (try simp only [go_sem, ff]); all_goals (first | done | grind | (simp; grind)))
        refine cd (fun c4 => ?_) (fun c4 => ?_)
        · skip
          refine stp In ?_
          refine dw_ret ?_
          exact fin 0 (hr := by (try simp only [go_sem, ff]); all_goals (have hF : (threeAt z.sets) k = false := (by simp only [threeAt, prevN, aliasTo]; grind); simp only [threeB]; rw [hv, allN_no hk2 hF]; try simp))
        · skip
          refine dw_skip ?_
          show DW _ _ _ _ _
          refine rgn In ?_
          show ∃ _, _
          have hal : aliasTo z.sets (k + 1) = z.sets[k]!.set.name := by simp only [aliasTo]; grind
          have ff := And.intro hal ff
          have h8 : threeAt z.sets k = true := by simp only [threeAt, prevN, hal]; grind
          exact rnd (k + 1, aliasTo z.sets (k + 1), _) (h1 := ⟨iv, iv, rfl, (by first | (rw [hv, allN_yes hk2 h8]) | (dsimp only; rw [hv, allN_yes hk2 h8])), trivial⟩)
      · skip
        refine dw_skip ?_
        show DW _ _ _ _ _
        refine stp In ?_ (hok := by (try simp only [go_sem, ff]); all_goals (first | done | grind | (simp; grind)))
        refine cd (fun c4 => ?_) (fun c4 => ?_)
        · skip
          refine stp In ?_
          refine dw_ret ?_
          exact fin 0 (hr := by (try simp only [go_sem, ff]); all_goals (have hF : (threeAt z.sets) k = false := (by simp only [threeAt, prevN, aliasTo]; grind); simp only [threeB]; rw [hv, allN_no hk2 hF]; try simp))
        · skip
          refine dw_skip ?_
          show DW _ _ _ _ _
          refine rgn In ?_
          show ∃ _, _
          have hal : aliasTo z.sets (k + 1) = z.sets[k]!.set.name := by simp only [aliasTo]; grind
          have ff := And.intro hal ff
          have h8 : threeAt z.sets k = true := by simp only [threeAt, prevN, hal]; grind
          exact rnd (k + 1, aliasTo z.sets (k + 1), _) (h1 := ⟨iv, iv, rfl, (by first | (rw [hv, allN_yes hk2 h8]) | (dsimp only; rw [hv, allN_yes hk2 h8])), trivial⟩)
    · skip
      refine dw_skip ?_
      show DW _ _ _ _ _
      refine stp In ?_
      refine stp In ?_
      refine dw_seq ?_
      refine stp In ?_
      refine cd (fun c3 => ?_) (fun c3 => ?_)
      · skip
        refine rgn In ?_
        show DW _ _ _ _ _
        refine stp In ?_ (hok := by (try simp only [go_sem, ff]); all_goals (first | done | grind | (simp; grind)))
        refine cd (fun c4 => ?_) (fun c4 => ?_)
        · skip
          refine stp In ?_
          refine dw_ret ?_
          exact fin 0 (hr := by (try simp only [go_sem, ff]); all_goals (have hF : (threeAt z.sets) k = false := (by simp only [threeAt, prevN, aliasTo]; grind); simp only [threeB]; rw [hv, allN_no hk2 hF]; try simp))
        · skip
          refine dw_skip ?_
          show DW _ _ _ _ _
          refine rgn In ?_
          show ∃ _, _
          have hal : aliasTo z.sets (k + 1) = al := by simp only [aliasTo]; grind
          have ff := And.intro hal ff
          have h8 : threeAt z.sets k = true := by simp only [threeAt, prevN, hal]; grind
          exact rnd (k + 1, aliasTo z.sets (k + 1), _) (h1 := ⟨iv, iv, rfl, (by first | (rw [hv, allN_yes hk2 h8]) | (dsimp only; rw [hv, allN_yes hk2 h8])), trivial⟩)
      · skip
        refine dw_skip ?_
        show DW _ _ _ _ _
        refine stp In ?_ (hok := by (try simp only [go_sem, ff]); all_goals (first | done | grind | (simp; grind)))
        refine cd (fun c4 => ?_) (fun c4 => ?_)
        · skip
          refine stp In ?_
          refine dw_ret ?_
          exact fin 0 (hr := by (try simp only [go_sem, ff]); all_goals (have hF : (threeAt z.sets) k = false := (by simp only [threeAt, prevN, aliasTo]; grind); simp only [threeB]; rw [hv, allN_no hk2 hF]; try simp))
        · skip
          refine dw_skip ?_
          show DW _ _ _ _ _
          refine rgn In ?_
          show ∃ _, _
          have hal : aliasTo z.sets (k + 1) = al := by simp only [aliasTo]; grind
          have ff := And.intro hal ff
          have h8 : threeAt z.sets k = true := by simp only [threeAt, prevN, hal]; grind
          exact rnd (k + 1, aliasTo z.sets (k + 1), _) (h1 := ⟨iv, iv, rfl, (by first | (rw [hv, allN_yes hk2 h8]) | (dsimp only; rw [hv, allN_yes hk2 h8])), trivial⟩)
  · skip
    refine dw_exit ?_
    show DW _ _ _ _ _
    refine stp In ?_
    refine dw_ret ?_
    exact fin 0 (hr := by (try simp only [go_sem, ff]); all_goals (simp only [threeB]; rw [hv, allN_end (by omega)]))

end Go.Proofs.YtipkfnkmdeopeaaGreatDoor
