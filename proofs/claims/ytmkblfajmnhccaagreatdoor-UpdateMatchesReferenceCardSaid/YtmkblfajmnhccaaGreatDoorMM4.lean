/-
  MANY TEXTS OF MINE IN ONE (a claim has a limit of files): Upn, Upv, Upo, Upq, Upr, Ups, Upt, DRec, DSort, Usem, DClaim, DLaid, UlCon, NmW1, NmW2, NmW3, NmW4, NmW5, NmW6, RcW1, RcW3, RcW4, RcW5, ZoW1, ZoW2, ZoW3, ZoW4, ZoW5, ReW1. Conditions: none.
-/
import Derived.RecoverIn
import Derived.Shelf.SlSortCmp.NoneTotal
import Derived.Carry
import Derived.RowKit
import Derived.ChangeSame
import Derived.OpenShut
import Derived.LaidMore
import Derived.Lay
import Derived.Test.YtmkblfajmnhccaaGreatDoorMM3
set_option linter.unusedVariables false
set_option linter.unusedSimpArgs false
set_option linter.unusedSectionVars false
namespace Go.Zon
open Go.DL Go.Str Go.Rec Go.Cmp
def intp1 : D → Int
 | .eptr [.v (.int _ k)] => k
 | _ => 0
@[go_sem] theorem intp1_i {k : IntKind} {n : Int} : intp1 (.eptr [.v (.int k n)]) = n := rfl
def setp1 : D → RSet
 | .eptr l => set1 (.agg l)
 | _ => default
@[go_sem] theorem setp1_eptr {l : List D} : setp1 (.eptr l) = set1 (.agg l) := rfl
def chgp1 : D → Chg
 | .eptr l => chg1 (.agg l)
 | _ => default
@[go_sem] theorem chgp1_eptr {l : List D} : chgp1 (.eptr l) = chg1 (.agg l) := rfl
def clint1 : D → Int
 | .fn _ _ [d] => intp1 d
 | _ => 0
@[go_sem] theorem clint1_fn {f : Fn} {x : List D} {d : D} : clint1 (.fn f x [d]) = intp1 d := rfl
def clset1 : D → RSet
 | .fn _ _ [d] => setp1 d
 | _ => default
@[go_sem] theorem clset1_fn {f : Fn} {x : List D} {d : D} : clset1 (.fn f x [d]) = setp1 d := rfl
def notPl (s : Sgd) : Bool := decide (0 < s.sigs.length) || decide (s.set.ty = 8)
def isNm (n : Str) (s : Sgd) : Bool := decide (s.set.name = n)
def hasD (l : List Dat) (x : Dat) : Bool := decide (x ∈ l)
theorem Zkn {α : Type} [Inhabited α] (q : α → Bool) (l : List α) : decide (0 ≤ firstAt q l 0) = !Zva l.length (fun i => !q l[i]!) 0 := by
 rcases Zlf q l _ 0 (Nat.le_refl _) with ⟨h1, h2⟩ | ⟨j, h1, h2, h3, h4, h5⟩
 ·
  rw [h1]
  have : Zva l.length (fun i => !q l[i]!) 0 = true := by
   rw [Zoa]; intro i _ hi; show (!q l[i]!) = true; rw [h2 i (Nat.zero_le _) hi]; rfl
  rw [this]; rfl
 ·
  rw [h1]
  have : Zva l.length (fun i => !q l[i]!) 0 = false := by
   rw [Bool.eq_false_iff]
   intro h
   rw [Zoa] at h
   have : (!q l[j]!) = true := h j (Nat.zero_le _) h3
   rw [h4] at this
   cases this
  rw [this]; simp
theorem Zj0 (z : Zon) : plainB z = !decide (0 ≤ firstAt notPl z.sets 0) := by
 rw [Zkn, Bool.not_not]
 rfl
theorem Zvq (z : Zon) (n : Str) : namedB z n = decide (0 ≤ firstAt (isNm n) z.sets 0) := by
 rw [Zkn]
 unfold namedB
 congr 2
 funext i
 show (!(z.sets[i]!.set.name == n)) = (!decide (z.sets[i]!.set.name = n))
 rw [Bool.eq_iff_iff]
 simp
theorem Zwy {α : Type} [Inhabited α] {q : α → Bool} {l : List α} {k : Nat} (hk : k < l.length) (h : q l[k]! = true) : firstAt q l k = k := by rw [Zjd, if_pos hk, if_pos h]
theorem Zx9 {α : Type} [Inhabited α] {q : α → Bool} {l : List α} {k : Nat} (hk : k < l.length) (h : q l[k]! = false) : firstAt q l k = firstAt q l (k + 1) := by
 rw [Zjd, if_pos hk, if_neg (by rw [h]; exact Bool.false_ne_true)]
theorem Zxy {α : Type} [Inhabited α] {q : α → Bool} {l : List α} {k : Nat} (hk : ¬ k < l.length) : firstAt q l k = -1 := by rw [Zjd, if_neg hk]
theorem Zr5 (l : List Dat) (x : Dat) : hasD l x = decide (0 ≤ firstAt (fun y => decide (x = y)) l 0) := by
 rw [Zkn]
 unfold hasD
 rw [Bool.eq_iff_iff, decide_eq_true_eq, Bool.not_eq_true', Bool.eq_false_iff, Ne, Zoa]
 constructor
 ·
  intro h k
  obtain ⟨i, hi, rfl⟩ := mem_ix.1 h
  have := k i (Nat.zero_le _) hi
  simp at this
 ·
  intro h
  apply Classical.byContradiction
  intro hx
  refine h fun i _ hi => ?_
  have : x ≠ l[i]! := fun e => hx (mem_ix.2 ⟨i, hi, e.symm⟩)
  simpa using this
def holdP (z : Zon) (n : Chg) : Bool :=
 if n.kind = 1 ∨ n.kind = 2 then decide (0 ≤ firstAt (isNm n.set.name) z.sets 0) == decide (n.kind = 1) else
 if n.kind = 3 then findOk z.sets n.q else if n.kind = 4 then !findOk z.sets n.q else findOk z.sets n.q && decide (z.sets[findIx z.sets n.q]!.set.data = n.set.data)
theorem eqSet_eq (a b : RSet) : decide (a = b) = (a.name == b.name && a.ty == b.ty && a.life == b.life && decide (a.data = b.data)) := by
 cases a; cases b; rw [Bool.eq_iff_iff]; simp [and_assoc]
theorem Ze1 {l : List Sgd} {q : Qst} (h : findOk l q = true) : findIx l q < l.length := by
 unfold findOk at h
 rw [Bool.and_eq_true, decide_eq_true_eq] at h
 exact h.1
def hpP (td : TypeId) (h : H) (p : List PS) : H := p.foldl (fun h x => upd h x.1 (some ⟨td, x.2.set.data.map Dat.d⟩)) h
theorem hpP_snoc {td : TypeId} {h : H} {p : List PS} {x : PS} : hpP td h (p ++ [x]) = upd (hpP td h p) x.1 (some ⟨td, x.2.set.data.map Dat.d⟩) := by simp [hpP]
theorem Zpv {td : TypeId} {q : Nat} : ∀ {p : List PS} {h : H}, (∀ x ∈ p, x.1 ≠ q) → hpP td h p q = h q
 | [], _, _ => rfl
 | x :: p, h, hn => by
  show hpP td (upd h x.1 _) p q = _
  rw [Zpv fun y hy => hn y (List.mem_cons_of_mem _ hy), upd_ne _ _ _ _ fun e => hn x List.mem_cons_self e.symm]
theorem hpP_on {td : TypeId} : ∀ {p : List PS} {h : H}, (p.map (·.1)).Nodup → ∀ x ∈ p, hpP td h p x.1 = some ⟨td, x.2.set.data.map Dat.d⟩
 | [], _, _, _, hx => by cases hx
 | y :: p, h, hn, x, hx => by
  show hpP td (upd h y.1 _) p x.1 = _
  rw [List.map_cons, List.nodup_cons] at hn
  rcases List.mem_cons.1 hx with rfl | hx
  ·
   rw [Zpv fun z hz e => hn.1 (List.mem_map.2 ⟨z, hz, e⟩), upd_same]
  ·
   exact hpP_on hn.2 x hx
theorem Zb5 {p : List PS} {x : PS} (h : (p.map (·.1)).Nodup) (hx : ∀ y ∈ p, y.1 ≠ x.1) : ((p ++ [x]).map (·.1)).Nodup := by
 rw [List.map_append, List.nodup_append]
 refine ⟨h, by simp, fun a ha b hb => ?_⟩
 obtain ⟨y, hy, rfl⟩ := List.mem_map.1 ha
 simp only [List.map_cons, List.map_nil, List.mem_singleton] at hb
 rw [hb]
 exact hx y hy
def Sgd.bare (s : Sgd) : Sgd := ⟨s.set, []⟩
theorem bare_to {l : List Sgd} {k : Nat} (h : k < l.length) : (l.take (k + 1)).map Sgd.bare = (l.take k).map Sgd.bare ++ [l[k]!.bare] := by rw [Zvc! h, List.map_append]; rfl
theorem lP_take {p : List PS} {l : List Sgd} {k : Nat} (h : lP p = (l.take k).map Sgd.bare) (hk : k ≤ l.length) : p.length = k := by
 have := congrArg List.length h
 simp [lP] at this
 omega
theorem rows_at {p : List PS} {k m : Nat} {z : List D} (hk : p.length = k) (hm : k < m) : (p.map rowP ++ List.replicate (m - k) z).getD k [] = z := by
 subst hk
 rw [List.getD_eq_getElem?_getD, List.getElem?_append_right (by simp), List.length_map, Nat.sub_self, List.getElem?_replicate, if_pos (by omega)]
 rfl
theorem Zt7 {p : List PS} {x : PS} {k m : Nat} {z : List D} (hk : p.length = k) (hm : k < m) : (p.map rowP ++ List.replicate (m - k) z).set k (rowP x) = (p ++ [x]).map rowP ++ List.replicate (m - (k + 1)) z := by
 subst hk
 rw [List.set_append_right _ _ (by simp)]
 have e : m - p.length = (m - (p.length + 1)) + 1 := by omega
 rw [e, List.replicate_succ]
 simp
theorem Zll (h : H) (k : Nat) (l : List D) : snap h k (.eptr l) = .eptr l := by cases k <;> rfl
theorem kr_mem {α : Type} {g : α → List D} {keep : α → Bool} {l : List α} {k : Nat} {row : List D} (h : row ∈ Ztd g keep l k) : ∃ x ∈ l, row = g x := by
 unfold Ztd at h
 rcases List.mem_append.1 h with h | h
 ·
  obtain ⟨x, hx, rfl⟩ := List.mem_map.1 h
  exact ⟨x, List.mem_of_mem_take (List.mem_filter.1 hx).1, rfl⟩
 ·
  obtain ⟨x, hx, rfl⟩ := List.mem_map.1 (List.mem_of_mem_drop h)
  exact ⟨x, hx, rfl⟩
theorem kr_row {α : Type} {g : α → List D} {keep : α → Bool} {l : List α} {k i m : Nat} (hg : ∀ x, (g x).length = m) (hi : i < (Ztd g keep l k).length) : ((Ztd g keep l k).getD i []).length = m := by
 have h : (Ztd g keep l k).getD i [] ∈ Ztd g keep l k := by
  rw [List.getD_eq_getElem?_getD, List.getElem?_eq_getElem hi]
  exact List.getElem_mem hi
 obtain ⟨x, _, e⟩ := kr_mem h
 rw [e, hg]
theorem Zc1 {α : Type} [Inhabited α] {q : α → Bool} {l : List α} (h : ¬ firstAt q l 0 = -1) : ∃ j : Nat, firstAt q l 0 = (j : Int) ∧ j < l.length ∧ q l[j]! = true ∧ ∀ i, i < j → q l[i]! = false := by
 rcases Zlf q l _ 0 (Nat.le_refl _) with ⟨g1, _⟩ | ⟨j, g1, _, g3, g4, g5⟩
 ·
  exact absurd g1 h
 ·
  exact ⟨j, g1, g3, g4, fun i hi => g5 i (Nat.zero_le _) hi⟩
theorem Zd1 {α : Type} [Inhabited α] {q : α → Bool} {l : List α} (h : firstAt q l 0 = -1) : l.filter (fun x => !q x) = l := by
 rcases Zlf q l _ 0 (Nat.le_refl _) with ⟨_, g2⟩ | ⟨j, g1, _, g3, g4, g5⟩
 ·
  refine List.filter_eq_self.2 fun x hx => ?_
  obtain ⟨i, hi, rfl⟩ := mem_ix.1 hx
  have : q l[i]! = false := g2 i (Nat.zero_le _) hi
  rw [this]; rfl
 ·
  rw [h] at g1; omega
theorem Zl7 {td : TypeId} {h : H} {r : Nat} {l : List Dat} (hr : h r = some ⟨td, l.map Dat.d⟩) : wk (snap h 2 (.mrow r 0 l.length)) = .list false (l.map Dat.d) ∧ Zqa h 2 (.mrow r 0 l.length) := by
 have hrw : rowsOf (.mrow r 0 l.length) h = l.map Dat.d := by simp only [rowsOf, hr, List.drop_zero]; exact List.take_of_length_le (by simp)
 refine ⟨?_, ?_⟩
 ·
  rw [snap_mrow, hrw]
  simp only [wk, Zr2, Zyg]
 ·
  refine ⟨⟨by rw [hr]; rfl, by rw [hrw]; simp⟩, ?_⟩
  rw [hrw]
  intro row hrow c hc
  obtain ⟨d, _, rfl⟩ := List.mem_map.1 hrow
  simp only [Dat.d, List.mem_cons, List.not_mem_nil, or_false] at hc
  rcases hc with rfl | rfl | rfl <;> rfl
def eqSets (a b : List Sgd) : Bool := decide (a.length = b.length) && Zva a.length (fun i => decide (a[i]!.set = b[i]!.set)) 0
def wnD (n : Int) : List D := [.i n]
def Zf4 : D → List Int
 | .list _ rows => rows.map fun r => match r with | [.v (.int _ n)] => n | _ => 0
 | _ => []
@[go_sem] theorem wnts1_map {f : Bool} {l : List Int} : Zf4 (.list f (l.map wnD)) = l := by
 simp only [Zf4, List.map_map]
 conv => rhs; rw [← List.map_id l]
 rfl
@[go_sem] theorem wnts1_one {f : Bool} {n : Int} : Zf4 (.list f [[.i n]]) = [n] := rfl
@[go_sem] theorem wnts1_two {f : Bool} {n m : Int} : Zf4 (.list f [[.i n], [.i m]]) = [n, m] := rfl
theorem Zty {l : List Int} {n : Nat} (h : n < l.length) : (l.map wnD).getD n [] = [.i l[n]!] := by
 simp [List.getD, h, wnD, getElem!_pos]
@[go_sem] theorem all_wnts {l : List Int} : (∀ r ∈ l.map wnD, r.length = 1) = True := by
 apply eq_true
 intro r hr
 obtain ⟨x, _, rfl⟩ := List.mem_map.1 hr
 rfl
@[go_sem] theorem nrr_wnts {l : List Int} : nrr (l.map wnD) = true := by
 induction l with
 | nil => rfl
 | cons x l ih => simp only [List.map_cons, nrr, ih, wnD, nrs, D.nr]; rfl
@[go_sem] theorem wkr_wnts {l : List Int} : wkr (l.map wnD) = l.map wnD := by
 induction l with
 | nil => rfl
 | cons x l ih => simp only [List.map_cons, wkr, ih, wnD, wk, wks]
def setU (n : Str) (k : Int) (t : Str) (a m : Int) : RSet := ⟨n, k, 60, [⟨t, a, m⟩]⟩
def adD (n : Int) : Dat := ⟨[], n, 0⟩
def exZ (s : Int) (w : List Int) : Zon := ⟨[120], [⟨setU [120] 2 [97, 46, 110, 115] 0 0, []⟩, ⟨setU [120] 4 [] s 60, []⟩, ⟨⟨[119, 46, 120], 1, 60, w.map adD⟩, []⟩]⟩
def Zbl (l : List Dat) : Nat → List Dat
 | 0 => []
 | k + 1 => if k = 0 ∨ l[k]! ≠ l[k - 1]! then Zbl l k ++ [l[k]!] else Zbl l k
def dpF (l : List Dat) : List Dat := Zbl l l.length
theorem Zpr {l : List Dat} {k : Nat} (h : k = 0 ∨ l[k]! ≠ l[k - 1]!) : Zbl l (k + 1) = Zbl l k ++ [l[k]!] := if_pos h
theorem Zl1 {l : List Dat} {k : Nat} (h : ¬ (k = 0 ∨ l[k]! ≠ l[k - 1]!)) : Zbl l (k + 1) = Zbl l k := if_neg h
theorem Zp3 (l : List Dat) : ∀ k, (Zbl l k).length ≤ k
 | 0 => Nat.le_refl _
 | k + 1 => by
  have := Zp3 l k
  by_cases h : k = 0 ∨ l[k]! ≠ l[k - 1]!
  ·
   rw [Zpr h, List.length_append]; simp; omega
  ·
   rw [Zl1 h]; omega
theorem Zzv {l : List Dat} : ∀ k, k ≤ l.length → (∀ i, 0 < i → i < k → l[i]! ≠ l[i - 1]!) → Zbl l k = l.take k
 | 0, _, _ => by simp [Zbl]
 | k + 1, hk, h => by
  rw [Zpr, Zzv k (by omega) (fun i h1 h2 => h i h1 (by omega)), Zvc! (by omega)]
  by_cases e : k = 0
  ·
   exact .inl e
  ·
   exact .inr (h k (by omega) (by omega))
theorem Zk1 {l : List Dat} (hs : l.Pairwise fun a b => datC a b ≤ 0) : ∀ k, k ≤ l.length → Zmd datC (Zbl l k) ∧ ∀ x, x ∈ Zbl l k ↔ x ∈ l.take k
 | 0, _ => ⟨.nil, fun x => by simp [Zbl]⟩
 | k + 1, hk => by
  obtain ⟨h1, h2⟩ := Zk1 hs k (by omega)
  have hat : ∀ i j, i < j → j < l.length → datC l[i]! l[j]! ≤ 0 := fun i j hij hj => by
   rw [getElem!_pos l i (by omega), getElem!_pos l j hj]
   exact List.pairwise_iff_getElem.1 hs i j (by omega) hj hij
  by_cases h : k = 0 ∨ l[k]! ≠ l[k - 1]!
  ·
   rw [Zpr h, Zvc! (by omega)]
   refine ⟨List.pairwise_append.2 ⟨h1, List.pairwise_singleton _ _, fun x hx y hy => ?_⟩, fun x => by rw [List.mem_append, List.mem_append, h2]⟩
   rw [List.mem_singleton] at hy
   subst hy
   obtain ⟨i, hi, rfl⟩ := mem_ix.1 ((h2 x).1 hx)
   have hi' : i < k := by simp at hi; omega
   rw [show (l.take k)[i]! = l[i]! from by rw [getElem!_pos _ i hi, getElem!_pos l i (by omega), List.getElem_take]]
   have hne := h.resolve_left (by omega)
   have hlt : datC l[k - 1]! l[k]! < 0 := by
    have := hat (k - 1) k (by omega) (by omega)
    have h3 : datC l[k - 1]! l[k]! ≠ 0 := fun e => hne (Yna e).symm
    omega
   by_cases e : i = k - 1
   ·
    rw [e]; exact hlt
   ·
    exact cm_dat.le_lt (hat i (k - 1) (by omega) (by omega)) hlt
  ·
   rw [Zl1 h, Zvc! (by omega)]
   refine ⟨h1, fun x => ?_⟩
   rw [h2, List.mem_append, List.mem_singleton]
   refine ⟨.inl, fun h3 => h3.elim id fun e => ?_⟩
   have e2 : l[k]! = l[k - 1]! := Classical.byContradiction fun q => h (.inr q)
   have hk0 : k ≠ 0 := fun q => h (.inl q)
   rw [e, e2]
   refine mem_ix.2 ⟨k - 1, by simp; omega, ?_⟩
   rw [getElem!_pos _ (k - 1) (by simp; omega), getElem!_pos l (k - 1) (by omega), List.getElem_take]
theorem Za6 {l : List Dat} (hs : l.Pairwise fun a b => datC a b ≤ 0) : Zmd datC (dpF l) := (Zk1 hs _ (Nat.le_refl _)).1
theorem dpF_mem {l : List Dat} (hs : l.Pairwise fun a b => datC a b ≤ 0) {x : Dat} : x ∈ dpF l ↔ x ∈ l := by
 have := (Zk1 hs _ (Nat.le_refl _)).2 x
 rwa [List.take_length] at this
def dpR (l : List Dat) (k : Nat) : List (List D) := (Zbl l k).map Dat.d ++ (l.map Dat.d).drop (Zbl l k).length
theorem Zm1 {l : List Dat} {k : Nat} (hk : k ≤ l.length) : (dpR l k).length = l.length := by
 have := Zp3 l k
 unfold dpR; simp; omega
theorem Yga {l : List Dat} {k i : Nat} (h1 : (Zbl l k).length ≤ i) (h2 : i < l.length) : (dpR l k).getD i [] = [.v (.string (bs l[i]!.t)), .i l[i]!.n, .i l[i]!.m] := by
 unfold dpR
 rw [List.getD_eq_getElem?_getD, List.getElem?_append_right (by simpa using h1), List.getElem?_drop, List.length_map, show (Zbl l k).length + (i - (Zbl l k).length) = i from by omega, List.getElem?_map, List.getElem?_eq_getElem h2, getElem!_pos l i h2]
 rfl
theorem dpR_set {l : List Dat} {k : Nat} (h : k = 0 ∨ l[k]! ≠ l[k - 1]!) (hk : k < l.length) : (dpR l k).set (Zbl l k).length [.v (.string (bs l[k]!.t)), .i l[k]!.n, .i l[k]!.m] = dpR l (k + 1) := by
 have := Zp3 l k
 unfold dpR
 rw [Zpr h, List.set_append_right _ _ (by simp), List.length_map, Nat.sub_self, List.drop_eq_getElem_cons (by simp; omega), List.set_cons_zero, List.length_append, List.map_append, List.append_assoc]
 rfl
theorem Zq3 {l : List Dat} {k : Nat} (h : ¬ (k = 0 ∨ l[k]! ≠ l[k - 1]!)) : dpR l (k + 1) = dpR l k := by unfold dpR; rw [Zl1 h]
theorem dpR_take (l : List Dat) (k : Nat) : (dpR l k).take (Zbl l k).length = (Zbl l k).map Dat.d := by
 unfold dpR
 rw [List.take_append_of_le_length (by simp), List.take_of_length_le (by simp)]
theorem dpR_same {l : List Dat} {k : Nat} (hk : k ≤ l.length) (h : ∀ i, 0 < i → i < k → l[i]! ≠ l[i - 1]!) : dpR l k = l.map Dat.d := by
 unfold dpR
 rw [Zzv k hk h, List.length_take, Nat.min_eq_left hk, ← List.map_drop, ← List.map_append, List.take_append_drop]
theorem Zkp {l : List Dat} (h : ∀ i, 0 < i → i < l.length → l[i]! ≠ l[i - 1]!) : dpF l = l := by
 unfold dpF
 rw [Zzv _ (Nat.le_refl _) h, List.take_length]
theorem ZM.shrink {tz ts td : TypeId} {zc rs : Nat} {a : Str} {p p' : List PS} {h h' : H} (m : ZM tz ts td zc rs a p h) (hs : p'.Sublist p) (hz : h' zc = some ⟨tz, [[.v (.string (bs a)), .mrow rs 0 p'.length]]⟩) (hr : h' rs = some ⟨ts, p'.map rowP⟩) (hd : ∀ x ∈ p, h' x.1 = h x.1) : ZM tz ts td zc rs a p' h' :=
 ⟨hz, hr, fun x hx => (hd x (hs.subset hx)).trans (m.d x (hs.subset hx)), m.zr, fun x hx => m.ne x (hs.subset hx), (hs.map _).nodup m.nd, fun x hx => m.sig x (hs.subset hx)⟩
def StepR (tz ts td : TypeId) (zc : Nat) (a : Str) (l : List Sgd) (h h' : H) (n n' : Nat) : Prop :=
 ∃ rs p, ZM tz ts td zc rs a p h' ∧ lP p = l ∧ (∀ q b, h q = some b → b.ty ≠ ts → b.ty ≠ td → q ≠ zc → h' q = some b) ∧ n ≤ n'
theorem lP_erase (p : List PS) (i : Nat) : lP (p.eraseIdx i) = (lP p).eraseIdx i := by simp [lP, List.eraseIdx_eq_take_drop_succ, List.map_take, List.map_drop]
theorem Zb4 {p : List PS} : ∀ q ∈ p.map rowP, q.length = 5 := fun q hq => by
 obtain ⟨x, _, rfl⟩ := List.mem_map.1 hq
 rfl
theorem Zw8 {α β : Type} (f : α → β) (l : List α) (i : Nat) : (l.map f).eraseIdx i = (l.eraseIdx i).map f := by simp [List.eraseIdx_eq_take_drop_succ, List.map_take, List.map_drop]
theorem Zp2 {tz ts td : TypeId} {zc rs : Nat} {a : Str} {p p' : List PS} {h : H} {n n' : Nat} (hz : ZM tz ts td zc rs a p h) (hs : p'.Sublist p) (hn : n ≤ n') : StepR tz ts td zc a (lP p') h (upd (upd h rs (some ⟨ts, p'.map rowP⟩)) zc (some ⟨tz, [[.v (.string (bs a)), .mrow rs 0 p'.length]]⟩)) n n' := by
 refine ⟨rs, p', hz.shrink hs (upd_same _ _ _) ?_ (fun x hx => ?_), rfl, fun q b h1 h2 h3 h4 => ?_, hn⟩
 ·
  rw [upd_ne _ _ _ _ (fun e => hz.zr e.symm), upd_same]
 ·
  have := hz.ne x hx
  rw [upd_ne _ _ _ _ this.1, upd_ne _ _ _ _ this.2]
 ·
  have h5 : q ≠ rs := fun e => h2 (by rw [e, hz.r] at h1; cases h1; rfl)
  rw [upd_ne _ _ _ _ h4, upd_ne _ _ _ _ h5]
  exact h1
theorem ZM.fresh {tz ts td : TypeId} {zc rs : Nat} {a : Str} {p : List PS} {h : H} (m : ZM tz ts td zc rs a p h) {q : Nat} {b : Option Blk} (hq : h q = none) : ZM tz ts td zc rs a p (upd h q b) :=
 m.keep fun r hr => upd_ne _ _ _ _ fun e => by
  subst e
  rcases hr with rfl | rfl | ⟨x, hx, rfl⟩
  ·
   rw [m.z] at hq; cases hq
  ·
   rw [m.r] at hq; cases hq
  ·
   rw [m.d x hx] at hq; cases hq
theorem StepR.of_fresh {tz ts td : TypeId} {zc : Nat} {a : Str} {l : List Sgd} {h h' : H} {n n1 n' : Nat} {q : Nat} {b : Option Blk} {n2 : Nat} (s : StepR tz ts td zc a l (upd h q b) h' n1 n') (hq : h q = none) (hn : n ≤ n1) (hn2 : n' ≤ n2) : StepR tz ts td zc a l h h' n n2 := by
 obtain ⟨rs, p, h1, h2, h3, h4⟩ := s
 refine ⟨rs, p, h1, h2, fun r c hr k1 k2 k3 => h3 r c ?_ k1 k2 k3, Nat.le_trans hn (Nat.le_trans h4 hn2)⟩
 rw [upd_ne _ _ _ _ (fun e => by rw [e, hq] at hr; cases hr)]
 exact hr
theorem StepR.same {tz ts td : TypeId} {zc rs : Nat} {a : Str} {p : List PS} {h : H} {n n' : Nat} (m : ZM tz ts td zc rs a p h) (hn : n ≤ n') : StepR tz ts td zc a (lP p) h h n n' := ⟨rs, p, m, rfl, fun _ _ h _ _ _ => h, hn⟩
def setL (l : List Sgd) (t : RSet) : List Sgd := if findOk l ⟨t.name, t.ty⟩ = true then l.eraseIdx (findIx l ⟨t.name, t.ty⟩) else l
theorem StepR.after {tz ts td : TypeId} {zc : Nat} {a : Str} {l : List Sgd} {h h1 h2 : H} {n n1 n2 n3 : Nat} (s : StepR tz ts td zc a l h1 h2 n1 n2) (k : ∀ q b, h q = some b → b.ty ≠ ts → b.ty ≠ td → q ≠ zc → h1 q = some b) (hn : n ≤ n1) (hn2 : n2 ≤ n3) : StepR tz ts td zc a l h h2 n n3 := by
 obtain ⟨rs, p, h1, h2, h3, h4⟩ := s
 exact ⟨rs, p, h1, h2, fun r c hr k1 k2 k3 => h3 r c (k r c hr k1 k2 k3) k1 k2 k3, Nat.le_trans hn (Nat.le_trans h4 hn2)⟩
def Sgd.withD (s : Sgd) (d : List Dat) : Sgd := ⟨{ s.set with data := d }, []⟩
theorem Zu2 {p : List PS} {i : Nat} {y : PS} : (p.map rowP).set i (rowP y) = (p.set i y).map rowP := by rw [List.map_set]
theorem Zbv {p : List PS} {i : Nat} (hi : i < p.length) : (p.map rowP).getD i [] = rowP p[i]! := by simp [List.getD, hi, getElem!_pos]
theorem rows_got {p : List (List D)} {i : Nat} {y : List D} (hi : i < p.length) : (p.set i y).getD i [] = y := by simp [List.getD, hi]
theorem Zxx {p : List PS} {i : Nat} {y : PS} (hi : i < p.length) (hy : y.1 = p[i]!.1) : (p.set i y).map (·.1) = p.map (·.1) := by
 rw [List.map_set, hy, getElem!_pos p i hi]
 have : p[i].1 = (p.map (·.1))[i]'(by simpa using hi) := by simp
 rw [this, List.set_getElem_self]
theorem Zhk {p : List PS} {i : Nat} {y x : PS} (hx : x ∈ p.set i y) : x = y ∨ x ∈ p := (List.mem_or_eq_of_mem_set hx).symm
theorem nodup_at {p : List PS} (h : (p.map (·.1)).Nodup) {i : Nat} (hi : i < p.length) {y : PS} (hy : y.1 = p[i]!.1) {x : PS} (hx : x ∈ p.set i y) (hne : x ≠ y) : x ∈ p ∧ x.1 ≠ p[i]!.1 := by
 have hn : ((p.set i y).map (·.1)).Nodup := by rw [Zxx hi hy]; exact h
 refine ⟨(Zhk hx).resolve_left hne, fun e => hne ?_⟩
 have hy2 : y ∈ p.set i y := List.mem_iff_getElem.2 ⟨i, by simpa using hi, by simp⟩
 obtain ⟨j, hj, rfl⟩ := List.getElem_of_mem hx
 obtain ⟨k, hk, ek⟩ := List.getElem_of_mem hy2
 have e2 : ((p.set i y).map (·.1))[j]'(by simpa using hj) = ((p.set i y).map (·.1))[k]'(by simpa using hk) := by
  simp only [List.getElem_map]
  rw [ek, e, hy]
 have := (List.getElem_inj hn).1 e2
 subst this
 exact ek
theorem ZM.setD {tz ts td : TypeId} {zc rs : Nat} {a : Str} {p : List PS} {h h' : H} (m : ZM tz ts td zc rs a p h) {i : Nat} (hi : i < p.length) (d : List Dat) (hz : h' zc = h zc) (hr : h' rs = some ⟨ts, (p.map rowP).set i (rowP (p[i]!.1, p[i]!.2.withD d))⟩) (hd : h' p[i]!.1 = some ⟨td, d.map Dat.d⟩) (ho : ∀ x ∈ p, x.1 ≠ p[i]!.1 → h' x.1 = h x.1) :
  ZM tz ts td zc rs a (p.set i (p[i]!.1, p[i]!.2.withD d)) h' := by
 have hin : p[i]! ∈ p := by rw [getElem!_pos p i hi]; exact List.getElem_mem hi
 refine ⟨by rw [hz, m.z, List.length_set], by rw [hr, Zu2], fun x hx => ?_, m.zr, fun x hx => ?_, by rw [Zxx (y := (p[i]!.1, p[i]!.2.withD d)) hi rfl]; exact m.nd, fun x hx => ?_⟩
 ·
  by_cases e : x = (p[i]!.1, p[i]!.2.withD d)
  ·
   subst e; exact hd
  ·
   obtain ⟨h1, h2⟩ := nodup_at (y := (p[i]!.1, p[i]!.2.withD d)) m.nd hi rfl hx e
   rw [ho x h1 h2]; exact m.d x h1
 ·
  rcases Zhk hx with e | hx
  ·
   rw [e]; exact m.ne p[i]! hin
  ·
   exact m.ne x hx
 ·
  rcases Zhk hx with rfl | hx
  ·
   rfl
  ·
   exact m.sig x hx
def Zuu (l : List Sgd) (t : RSet) : List Sgd :=
 if findOk l ⟨t.name, t.ty⟩ = true then
  (if (l[findIx l ⟨t.name, t.ty⟩]!.set.data.filter fun x => !hasD t.data x).length = 0 then l.eraseIdx (findIx l ⟨t.name, t.ty⟩)
   else l.set (findIx l ⟨t.name, t.ty⟩) (l[findIx l ⟨t.name, t.ty⟩]!.withD (l[findIx l ⟨t.name, t.ty⟩]!.set.data.filter fun x => !hasD t.data x)))
 else l
theorem Zy9 {α : Type} (l : List α) (i : Nat) (y : α) : (l.set i y).eraseIdx i = l.eraseIdx i := by
 rw [List.eraseIdx_eq_take_drop_succ, List.eraseIdx_eq_take_drop_succ, List.take_set_of_le (Nat.le_refl _), List.drop_set_of_lt (Nat.lt_succ_self _)]
theorem Zh3 {p : List PS} {i : Nat} {y : PS} : lP (p.set i y) = (lP p).set i y.2 := by simp [lP, List.map_set]
theorem Zym {l : List Sgd} {t : RSet} (hf : findOk l ⟨t.name, t.ty⟩ = false) : Zuu l t = l := by unfold Zuu; rw [if_neg (by rw [hf]; exact Bool.false_ne_true)]
theorem Zzm {p : List PS} {t : RSet} {ix : Nat} (hf : findOk (lP p) ⟨t.name, t.ty⟩ = true) (hix : ix = findIx (lP p) ⟨t.name, t.ty⟩) (hi : ix < p.length) (hn : ¬ (p[ix]!.2.set.data.filter fun x => !hasD t.data x).length = 0) :
  lP (p.set ix (p[ix]!.1, p[ix]!.2.withD (p[ix]!.2.set.data.filter fun x => !hasD t.data x))) = Zuu (lP p) t := by
 unfold Zuu
 rw [if_pos hf, ← hix, Zn5 hi, if_neg hn, Zh3]
theorem Zan {p : List PS} {t : RSet} {ix : Nat} (hf : findOk (lP p) ⟨t.name, t.ty⟩ = true) (hix : ix = findIx (lP p) ⟨t.name, t.ty⟩) (hi : ix < p.length) (hn : (p[ix]!.2.set.data.filter fun x => !hasD t.data x).length = 0) (y : PS) :
  (lP (p.set ix y)).eraseIdx ix = Zuu (lP p) t := by
 unfold Zuu
 rw [if_pos hf, ← hix, Zn5 hi, if_pos hn, Zh3, Zy9]
def addD (o : List Dat) (t : RSet) : List Dat := if t.ty ≠ 3 ∧ t.ty ≠ 4 then mrgD o t.data else t.data
def addL (l : List Sgd) (t : RSet) : List Sgd :=
 if findOk l ⟨t.name, t.ty⟩ = true then l.set (findIx l ⟨t.name, t.ty⟩) ⟨{ t with data := addD l[findIx l ⟨t.name, t.ty⟩]!.set.data t }, []⟩
 else l.take (findIx l ⟨t.name, t.ty⟩) ++ ⟨t, []⟩ :: l.drop (findIx l ⟨t.name, t.ty⟩)
theorem dp_mrg {a b l : List Dat} (ha : Zmd datC a) (hb : Zmd datC b) (hp : l.Perm (b ++ a)) (hs : Sorted datC l) : dpF l = mrgD a b := by
 have hs' : l.Pairwise fun a b => datC a b ≤ 0 := hs
 obtain ⟨h1, h2⟩ := mrg_spec _ a b (Nat.le_refl _) ha hb
 refine Zbn cm_dat (Za6 hs') h1 fun x => ?_
 rw [dpF_mem hs', h2, hp.mem_iff, List.mem_append]
 exact Or.comm
theorem ZM.setP {tz ts td : TypeId} {zc rs : Nat} {a : Str} {p : List PS} {h h' : H} (m : ZM tz ts td zc rs a p h) {i : Nat} (hi : i < p.length) {r : Nat} {s : RSet} (hz : h' zc = h zc) (hr : h' rs = some ⟨ts, (p.map rowP).set i (rowP (r, ⟨s, []⟩))⟩) (hd : h' r = some ⟨td, s.data.map Dat.d⟩)
  (hf : ∀ x ∈ p, x.1 ≠ r) (hrz : r ≠ zc ∧ r ≠ rs) (ho : ∀ x ∈ p, h' x.1 = h x.1) : ZM tz ts td zc rs a (p.set i (r, ⟨s, []⟩)) h' := by
 refine ⟨by rw [hz, m.z, List.length_set], by rw [hr, Zu2], fun x hx => ?_, m.zr, fun x hx => ?_, ?_, fun x hx => ?_⟩
 ·
  rcases Zhk hx with rfl | hx
  ·
   exact hd
  ·
   rw [ho x hx]; exact m.d x hx
 ·
  rcases Zhk hx with rfl | hx
  ·
   exact hrz
  ·
   exact m.ne x hx
 ·
  rw [List.map_set]
  have hn : r ∉ p.map (·.1) := fun hc => by
   obtain ⟨x, hx, e⟩ := List.mem_map.1 hc
   exact hf x hx e
  exact nodup_set_new m.nd hn
 ·
  rcases Zhk hx with rfl | hx
  ·
   rfl
  ·
   exact m.sig x hx
where
 nodup_set_new {l : List Nat} {i r : Nat} (h : l.Nodup) (hr : r ∉ l) : (l.set i r).Nodup := by
  induction l generalizing i with
  | nil => simp
  | cons x l ih =>
   rw [List.nodup_cons] at h
   have hr1 : r ≠ x := fun e => hr (by simp [e])
   have hr2 : r ∉ l := fun e => hr (by simp [e])
   cases i with
   | zero => rw [List.set_cons_zero, List.nodup_cons]; exact ⟨hr2, h.2⟩
   | succ i =>
    rw [List.set_cons_succ, List.nodup_cons]
    refine ⟨fun hc => ?_, ih h.2 hr2⟩
    rcases List.mem_or_eq_of_mem_set hc with q | q
    ·
     exact h.1 q
    ·
     exact hr1 q.symm
theorem lP_insP {p : List PS} {i : Nat} {y : PS} : lP (p.take i ++ y :: p.drop i) = (lP p).take i ++ y.2 :: (lP p).drop i := by simp [lP, List.map_take, List.map_drop]
theorem Zv7 {p : List PS} {i : Nat} {y : PS} : (p.map rowP).take i ++ rowP y :: (p.map rowP).drop i = (p.take i ++ y :: p.drop i).map rowP := by simp [List.map_take, List.map_drop]
theorem Zkv {p : List PS} {i : Nat} {y x : PS} (h : x ∈ p.take i ++ y :: p.drop i) : x = y ∨ x ∈ p := by
 rcases List.mem_append.1 h with h | h
 ·
  exact .inr (List.mem_of_mem_take h)
 ·
  rcases List.mem_cons.1 h with h | h
  ·
   exact .inl h
  ·
   exact .inr (List.mem_of_mem_drop h)
theorem ZM.insP {tz ts td : TypeId} {zc rs rs' : Nat} {a : Str} {p : List PS} {h h' : H} (m : ZM tz ts td zc rs a p h) {i : Nat} (hi : i ≤ p.length) {r : Nat} {s : RSet} (hz : h' zc = some ⟨tz, [[.v (.string (bs a)), .mrow rs' 0 (p.length + 1)]]⟩) (hr : h' rs' = some ⟨ts, (p.map rowP).take i ++ rowP (r, ⟨s, []⟩) :: (p.map rowP).drop i⟩) (hd : h' r = some ⟨td, s.data.map Dat.d⟩)
  (hf : ∀ x ∈ p, x.1 ≠ r) (hrz : r ≠ zc ∧ r ≠ rs') (hzz : zc ≠ rs') (hne : ∀ x ∈ p, x.1 ≠ rs') (ho : ∀ x ∈ p, h' x.1 = h x.1) : ZM tz ts td zc rs' a (p.take i ++ (r, ⟨s, []⟩) :: p.drop i) h' := by
 refine ⟨?_, by rw [hr, Zv7], fun x hx => ?_, hzz, fun x hx => ?_, ?_, fun x hx => ?_⟩
 ·
  rw [hz]
  have : (p.take i ++ (r, (⟨s, []⟩ : Sgd)) :: p.drop i).length = p.length + 1 := by simp; omega
  rw [this]
 ·
  rcases Zkv hx with rfl | hx
  ·
   exact hd
  ·
   rw [ho x hx]; exact m.d x hx
 ·
  rcases Zkv hx with rfl | hx
  ·
   exact hrz
  ·
   exact ⟨(m.ne x hx).1, hne x hx⟩
 ·
  have hn : r ∉ p.map (·.1) := fun hc => by
   obtain ⟨x, hx, e⟩ := List.mem_map.1 hc
   exact hf x hx e
  have e : (p.take i ++ (r, (⟨s, []⟩ : Sgd)) :: p.drop i).map (·.1) = (p.map (·.1)).take i ++ r :: (p.map (·.1)).drop i := by simp [List.map_take, List.map_drop]
  rw [e]
  have hd2 : ((p.map (·.1)).take i ++ (p.map (·.1)).drop i).Nodup := by rw [List.take_append_drop]; exact m.nd
  rw [List.nodup_append] at hd2 ⊢
  refine ⟨hd2.1, List.nodup_cons.2 ⟨fun hc => hn (List.mem_of_mem_drop hc), hd2.2.1⟩, fun x hx y hy => ?_⟩
  rcases List.mem_cons.1 hy with rfl | hy
  ·
   exact fun e => hn (e ▸ List.mem_of_mem_take hx)
  ·
   exact hd2.2.2 x hx y hy
 ·
  rcases Zkv hx with rfl | hx
  ·
   rfl
  ·
   exact m.sig x hx
theorem addL_no {l : List Sgd} {t : RSet} (hf : findOk l ⟨t.name, t.ty⟩ = false) : addL l t = l.take (findIx l ⟨t.name, t.ty⟩) ++ ⟨t, []⟩ :: l.drop (findIx l ⟨t.name, t.ty⟩) := by unfold addL; rw [if_neg (by rw [hf]; exact Bool.false_ne_true)]
theorem Zc4 {p : List PS} {t : RSet} {ix : Nat} (hf : findOk (lP p) ⟨t.name, t.ty⟩ = true) (hix : ix = findIx (lP p) ⟨t.name, t.ty⟩) (hi : ix < p.length) {d : List Dat} (hd : d = addD p[ix]!.2.set.data t) (r : Nat) : lP (p.set ix (r, ⟨{ t with data := d }, []⟩)) = addL (lP p) t := by
 unfold addL
 rw [if_pos hf, ← hix, Zn5 hi, Zh3, hd]
theorem find_cut {l : List Sgd} {q : Qst} (ho : Ord l) (hn : ∀ s ∈ l, nameOk s.set.name = true) (hq : nameOk q.name = true) :
  findIx l q ≤ l.length ∧ (∀ k, k < findIx l q → qp l[k]!.q q < 0) ∧ (∀ k, findIx l q ≤ k → k < l.length → ¬ qp l[k]!.q q < 0) := by
 have hc : ∀ k, k < l.length → qC l[k]!.q q = qp l[k]!.q q := fun k hk => Ze8 (hn _ (Zob hk)) hq
 obtain ⟨h1, h2⟩ := Zgz (fun k => qC l[k]!.q q) l.length (fun i j hij hj h => by
   rw [hc _ (by omega)]
   rw [hc _ hj] at h
   by_cases e : i = j
   ·
    subst e; exact h
   ·
    exact cm_q.lt_le (Zgf ho (by omega : i < j) hj) (by omega)) _ 0 l.length (Nat.le_refl _) (Nat.zero_le _) (Nat.le_refl _) (fun k hk => by omega) (fun k h1 h2 => by omega)
 have h1 : ∀ k, k < findIx l q → qC l[k]!.q q < 0 := h1
 have h2 : ∀ k, findIx l q ≤ k → k < l.length → ¬ qC l[k]!.q q < 0 := h2
 have hle : findIx l q ≤ l.length := (Zz1 _ _ 0 l.length (Nat.le_refl _) (Nat.zero_le _)).1
 refine ⟨hle, fun k hk => ?_, fun k hk hk2 => ?_⟩
 ·
  rw [← hc k (by omega)]; exact h1 k hk
 ·
  rw [← hc k hk2]; exact h2 k hk hk2
theorem Zqm {l : List Sgd} {q : Qst} (hn : ∀ s ∈ l, nameOk s.set.name = true) (hq : nameOk q.name = true) (h : findOk l q = true) : findIx l q < l.length ∧ l[findIx l q]!.q = q := by
 unfold findOk at h
 rw [Bool.and_eq_true, decide_eq_true_eq, beq_iff_eq] at h
 refine ⟨h.1, ?_⟩
 have := h.2
 rw [Ze8 (hn _ (Zob h.1)) hq, qp_eq] at this
 exact this
theorem Zln {l : List Sgd} {q : Qst} (ho : Ord l) (hn : ∀ s ∈ l, nameOk s.set.name = true) (hq : nameOk q.name = true) (h : findOk l q = true) : Zxo l q = some l[findIx l q]! := by
 rw [Zqj ho hn hq, if_pos h]
theorem Zmn {l : List Sgd} {q : Qst} (ho : Ord l) (hn : ∀ s ∈ l, nameOk s.set.name = true) (hq : nameOk q.name = true) (h : findOk l q = false) : Zxo l q = none := by
 rw [Zqj ho hn hq, if_neg (by rw [h]; exact Bool.false_ne_true)]
theorem Ze0 {l : List Sgd} (h : Ord l) {k : Nat} (hk : k < l.length) {s : Sgd} (hq : l[k]!.q = s.q) : l.set k s = Zds l s := by
 rw [Zg8 h hk hq, List.set_eq_take_append_cons_drop, if_pos hk]
theorem Zyy {l : List Sgd} (h : Ord l) {k : Nat} (hk : k < l.length) {q : Qst} (hq : l[k]!.q = q) : l.eraseIdx k = delL l q := by
 rw [Yia h hk hq, List.eraseIdx_eq_take_drop_succ]
theorem Zp7 {z : Zon} (h : ZOrd z) {c : Chg} (hc : nameOk c.set.name = true) (hk : c.kind = 3) : setL z.sets c.set = Zre z.sets c := by
 unfold setL Zre
 rw [if_neg (show ¬ c.kind = 4 by omega), if_neg (show ¬ c.kind = 1 by omega), show c.q = ⟨c.set.name, c.set.ty⟩ from rfl]
 cases hf : findOk z.sets ⟨c.set.name, c.set.ty⟩ with
 | false => rw [if_neg (by simp), Zmn h.ord h.nms hc hf]
 | true =>
  obtain ⟨h1, h2⟩ := Zqm h.nms (q := ⟨c.set.name, c.set.ty⟩) hc hf
  rw [if_pos rfl, Zln h.ord h.nms hc hf, Zyy h.ord h1 h2]
  simp only
  rw [if_neg (fun k => by omega)]
theorem Zm4 {z : Zon} (h : ZOrd z) {c : Chg} (hc : nameOk c.set.name = true) (hk : c.kind = 2) : Zuu z.sets c.set = Zre z.sets c := by
 unfold Zuu Zre
 rw [if_neg (show ¬ c.kind = 4 by omega), if_neg (show ¬ c.kind = 1 by omega), show c.q = ⟨c.set.name, c.set.ty⟩ from rfl]
 cases hf : findOk z.sets ⟨c.set.name, c.set.ty⟩ with
 | false => rw [if_neg (by simp), Zmn h.ord h.nms hc hf]
 | true =>
  obtain ⟨h1, h2⟩ := Zqm h.nms (q := ⟨c.set.name, c.set.ty⟩) hc hf
  rw [if_pos rfl, Zln h.ord h.nms hc hf]
  simp only
  have e : (z.sets[findIx z.sets ⟨c.set.name, c.set.ty⟩]!.set.data.filter fun x => !hasD c.set.data x) = leftD z.sets[findIx z.sets ⟨c.set.name, c.set.ty⟩]!.set.data c.set.data := (Zu0 _ _).symm
  rw [e]
  by_cases hd : leftD z.sets[findIx z.sets ⟨c.set.name, c.set.ty⟩]!.set.data c.set.data = []
  ·
   rw [if_pos (by rw [hd]; rfl), if_neg (fun k => k.2 hd), Zyy h.ord h1 h2]
  ·
   rw [if_neg (fun k => hd (List.eq_nil_of_length_eq_zero k)), if_pos ⟨hk, hd⟩]
   exact Ze0 h.ord h1 rfl
theorem Yza {z : Zon} (h : ZOrd z) {c : Chg} (hc : nameOk c.set.name = true) (hk : c.kind = 1) : addL z.sets c.set = Zre z.sets c := by
 unfold addL Zre
 rw [if_neg (show ¬ c.kind = 4 by omega), if_pos hk, show c.q = ⟨c.set.name, c.set.ty⟩ from rfl]
 cases hf : findOk z.sets ⟨c.set.name, c.set.ty⟩ with
 | true =>
  obtain ⟨h1, h2⟩ := Zqm h.nms (q := ⟨c.set.name, c.set.ty⟩) hc hf
  rw [if_pos rfl, Zln h.ord h.nms hc hf]
  exact Ze0 h.ord h1 h2
 | false =>
  have hn := Zmn h.ord h.nms (q := ⟨c.set.name, c.set.ty⟩) hc hf
  rw [if_neg (by simp), hn]
  obtain ⟨h1, h2, h3⟩ := find_cut h.ord h.nms (q := ⟨c.set.name, c.set.ty⟩) hc
  have e : (⟨{ c.set with data := chgD none c }, []⟩ : Sgd) = ⟨c.set, []⟩ := rfl
  rw [e]
  conv => rhs; rw [← List.take_append_drop (findIx z.sets ⟨c.set.name, c.set.ty⟩) z.sets]
  refine (Zet (fun x hx => ?_) (fun x hx => ?_)).symm
  ·
   obtain ⟨k, hk, rfl⟩ := mem_ix.1 hx
   have hk' : k < findIx z.sets ⟨c.set.name, c.set.ty⟩ := by simp at hk; omega
   rw [show (z.sets.take (findIx z.sets ⟨c.set.name, c.set.ty⟩))[k]! = z.sets[k]! from by rw [getElem!_pos _ k hk, getElem!_pos z.sets k (by omega), List.getElem_take]]
   exact h2 k hk'
  ·
   obtain ⟨k, hk, rfl⟩ := mem_ix.1 hx
   have hk' : findIx z.sets ⟨c.set.name, c.set.ty⟩ + k < z.sets.length := by simp at hk; omega
   rw [show (z.sets.drop (findIx z.sets ⟨c.set.name, c.set.ty⟩))[k]! = z.sets[findIx z.sets ⟨c.set.name, c.set.ty⟩ + k]! from by rw [getElem!_pos _ k hk, getElem!_pos z.sets _ hk', List.getElem_drop]]
   have h4 := h3 _ (Nat.le_add_right _ k) hk'
   have h5 : qp z.sets[findIx z.sets ⟨c.set.name, c.set.ty⟩ + k]!.q ⟨c.set.name, c.set.ty⟩ ≠ 0 := fun e => by
    rw [qp_eq] at e
    exact mget_none.1 hn _ (Zob hk') e
   show 0 < qp _ _
   have h6 : (⟨c.set, []⟩ : Sgd).q = ⟨c.set.name, c.set.ty⟩ := rfl
   rw [h6]
   omega
theorem Zc5 {l : List Sgd} {c : Chg} (hk : c.kind = 4) : (l.filter fun x => !isNm c.set.name x) = Zre l c := by
 unfold Zre
 rw [if_pos hk]
 rfl
theorem Zj9 {p : List PS} {q : Sgd → Bool} : lP (p.filter fun x => q x.2) = (lP p).filter q := by simp [lP, List.filter_map, Function.comp_def]
theorem Zcj {y : Zon} {c : Chg} (hy : PlainZ y) (hc : chgOk c = true) (h : (c.kind = 4 ∧ c.set.name = y.apex) ∨ zoneOk ⟨y.apex, Zre y.sets c⟩ = false) : Zxp y c = none := by
 unfold Zxp
 rw [Zr0 hy.zo (Zmo hc), if_pos h]
theorem Zjl {y : Zon} {c : Chg} (hy : PlainZ y) (hc : chgOk c = true) (h1 : ¬ (c.kind = 4 ∧ c.set.name = y.apex)) (h2 : zoneOk ⟨y.apex, Zre y.sets c⟩ = true) : Zxp y c = some ⟨y.apex, Zre y.sets c⟩ := by
 unfold Zxp
 rw [Zr0 hy.zo (Zmo hc), if_neg (by rintro (k | k); exact h1 k; rw [h2] at k; cases k)]
theorem chg_kind {c : Chg} (h : chgOk c = true) : c.kind = 1 ∨ c.kind = 2 ∨ c.kind = 3 ∨ c.kind = 4 := by
 unfold chgOk at h
 rw [Bool.and_eq_true] at h
 have := h.2
 grind
theorem Zk6 {z : Zon} (h : PlainZ z) : z.sets.map Sgd.bare = z.sets := by
 conv => rhs; rw [← List.map_id z.sets]
 refine List.map_congr_left fun s hs => ?_
 have := h.sig s hs
 cases s
 simp only at this
 subst this
 rfl
end Go.Zon
namespace Go.DL
open Go.RowKit
variable {P : Program} {ro : Option Nat} {Q : Exit → S → Prop}
def Zvm (P : Program) (K : World → Prop) : List Deferred → World → Prop
 | [], w => K w
 | d :: ds, w => ∃ r w', d.target = .collected r ∧ (Instr.takeDeferred r).run P w = .ok [] w' ∧ Zvm P K ds w'
theorem Zv8 {K : World → Prop} {B : Nat} {g : Mem} : ∀ (ds : List Deferred) (w : World), Marks B g ds w →
  (∀ w', w'.drawn = w.drawn → w'.os = w.os → w'.tape = w.tape → w'.output = w.output → w'.heap.size = w.heap.size → (∀ k : Nat, k < B → w'.heap[k]? = w.heap[k]?) → (∀ k : Nat, g.I k → w'.heap[k]? = w.heap[k]?) → (∀ (k : Nat) o, w.heap[k]? = some o → Yab o → w'.heap[k]? = w.heap[k]?) → K w') →
  Zvm P K ds w := by
 intro ds
 induction ds with
 | nil =>
  intro w _ h
  exact h w rfl rfl rfl rfl rfl (fun _ _ => rfl) (fun _ _ => rfl) (fun _ _ _ _ => rfl)
 | cons d ds ih =>
  rintro w ⟨⟨D, h1, h2, h3, h4, h5⟩, h6⟩ h
  refine ⟨D, w.putObj D (.deferred none), h1, run_takeDeferred h2, ?_⟩
  have hne : ∀ k, k ≠ D → (w.putObj D (.deferred none)).heap[k]? = w.heap[k]? := fun k hk => World.putObj_heap_other hk
  have hms : ∀ ds : List Deferred, (∀ d' ∈ ds, d'.target ≠ .collected D) → Marks B g ds w → Marks B g ds (w.putObj D (.deferred none)) := by
   intro ds
   induction ds with
   | nil => intro _ _; trivial
   | cons e ds ihd =>
    rintro hds ⟨⟨D', k1, k2, k3, k4, k5⟩, k6⟩
    refine ⟨⟨D', k1, ?_, k3, k4, k5⟩, ihd (fun d' hd' => hds d' (by simp [hd'])) k6⟩
    rw [hne D' (fun e' => by subst e'; exact hds e (by simp) k1)]
    exact k2
  refine ih _ (hms ds h3 h6) fun w' e0 e1 e2 e3 e4 e5 e6 e7 => ?_
  refine h w' (by rw [e0]; rfl) (by rw [e1]; rfl) (by rw [e2]; rfl) (by rw [e3]; rfl) (by rw [e4]; simp) (fun k hk => ?_) (fun k hk => ?_) (fun k o hk ho => ?_)
  ·
   rw [e5 k hk, hne k (by omega)]
  ·
   rw [e6 k hk, hne k (fun e => by subst e; exact h5 hk)]
  ·
   have : k ≠ D := fun e' => by subst e'; rw [h2] at hk; cases hk; exact ho
   rw [e7 k o (by rw [hne k this]; exact hk) ho, hne k this]
theorem Zar {F : Fence} {n : Nat} {K : World → Prop} : ∀ (ds : List Deferred) (w : World) (fr : Frame) (cs : List Frame), fr.mode ≠ .run → fr.defers = ds → F.fn fr.fn → F.room (cs.length + 1 + n) → Zvm P K ds w →
  ∃ w', K w' ∧ StepsIn (Machine.fenced P F) P (lone fr cs w) (lone { fr with defers := [] } cs w') := by
 intro ds
 induction ds with
 | nil =>
  intro w fr cs hm hd hb hr h
  refine ⟨w, h, ?_⟩
  have : ({ fr with defers := [] } : Frame) = fr := by cases fr; simp only at hd; subst hd; rfl
  rw [this]
  exact .refl _
 | cons d ds ih =>
  intro w fr cs hm hd hb hr ⟨r, w', htar, htake, hrest⟩
  have h1 := step_collected (cs := cs) hm hd htar htake
  have i1 : (lone fr cs w).fenced P F := fenced_out hb hr hm hd (fun g hg => by rw [htar] at hg; simp [Target.leads] at hg)
  obtain ⟨w2, hk, hs⟩ := ih w' { fr with defers := [] ++ ds } cs hm rfl hb hr hrest
  exact ⟨w2, hk, StepsIn.trans (.one i1 h1) hs⟩
def Zlu (P : Program) (fn : Func) (c₀ : Frame) (cs : List Frame) (R : Ending → FrameMode → World → Prop) : Exit → Act → List Frame → World → Prop
 | .normal, a, cs', w | .ret, a, cs', w => ∃ u', cs' = { c₀ with mode := u' } :: cs ∧ Zvm P (fun w2 => ∃ v, (results fn a.tmps).run P w2 = .ok v w2 ∧ R (.returned v) u' w2) a.defers w
 | _, _, _, _ => False
theorem Zhs {F : Fence} {n : Nat} {f : FuncId} {fn : Func} {c : Code} {args : Array Value} {u : FrameMode} {w : World} {R : Ending → FrameMode → World → Prop}
  (hf : P.funcs[f]? = some fn) (hb : fn.body = some c) (hF : F.fn f)
  (h : ∀ (c₀ : Frame) (cs : List Frame), c₀.mode = u →
   c.wpSIn F n P (Zlu P fn c₀ cs R) { tmps := args ++ Array.replicate (fn.ntmps - args.size) undef, defers := [] } (c₀ :: cs) w) :
  CallsDIn F n P f args u w R := by
 refine ⟨hF, fun c₀ cs hu hroom => ?_⟩
 let b : Frame := { (default : Frame) with fn := f, kind := .deferred, roundOf := none }
 have henter : Frame.enter P f args .deferred =
   b.atR { tmps := args ++ Array.replicate (fn.ntmps - args.size) undef, defers := [] } [.code c] := by
  simp [Frame.enter, Frame.atR, hf, hb, b]
 obtain ⟨e, a', cs', w', hl, hq, harr⟩ := h c₀ cs hu b [] rfl rfl hF hroom
 rw [← henter] at harr
 cases e with
 | normal =>
  obtain ⟨u', rfl, hm⟩ := hq
  obtain ⟨w2, ⟨v, hr, hR⟩, hs⟩ := Zar (F := F) (n := n) a'.defers w' { b.atR a' [] with mode := .returning } ({ c₀ with mode := u' } :: cs) (by simp) rfl hF hroom hm
  exact ⟨.returned v, u', w2, _, hR, StepsIn.trans (StepsIn.trans harr (.one (fenced_calm (fr := b.atR a' []) hF hroom rfl) (stepR_end rfl))) hs, rfl, rfl, rfl, rfl, fn, hf, hr⟩
 | ret =>
  obtain ⟨u', rfl, hm⟩ := hq
  obtain ⟨todo, hs₀⟩ := harr.1 rfl
  obtain ⟨w2, ⟨v, hr, hR⟩, hs⟩ := Zar (F := F) (n := n) a'.defers w' { b.atR a' todo with mode := .returning } ({ c₀ with mode := u' } :: cs) (by simp) rfl hF hroom hm
  exact ⟨.returned v, u', w2, _, hR, StepsIn.trans hs₀ hs, rfl, rfl, rfl, rfl, fn, hf, hr⟩
 | _ => exact hq.elim
theorem Zro {F : Fence} {n : Nat} {Q : Exit → Act → List Frame → World → Prop} {a : Act} {cs cs1 : List Frame} {w : World} {id : Nat} {ops : Array Oper} {o : Oper} {v : Value} (hro : F.round = none) (ho : ops[0]? = some o) (hg : o.guard = none)
  (habout : ∀ f, o.about P w a.eval = some f → F.fn f) (hrun : (execOp a.eval o).run P w = .ok .recover w) (hlen : cs1.length = cs.length) (hrec : recoverD cs = some (v, cs1) ∨ recoverD cs = none ∧ v = .nilIface ∧ cs1 = cs)
  (h : wpOpsIn F n P ops (fun e a' w' => Q e a' cs1 w') (List.range' 1 (ops.size - 1)) (a.put o.dst v) w) : (Code.region id ops false).wpSIn F n P Q a cs w := by
 intro b k hb hr hF hroom
 have hlt : 0 < ops.size := (Array.getElem?_eq_some_iff.1 ho).1
 have hrange : List.range ops.size = 0 :: List.range' 1 (ops.size - 1) := by
  rw [List.range_eq_range']
  have : ops.size = (ops.size - 1) + 1 := by omega
  conv => lhs; rw [this]
  rw [List.range'_succ]
 have hw : Region.wanted o (yielded ops a.tmps) = true := by simp [Region.wanted, hg]
 have h0 : (lone (b.atR a (.inRegion ops (0 :: List.range' 1 (ops.size - 1)) :: k)) cs w).fenced P F := fenced_oper hF hroom ho habout
 have hgs := stepGR_op (P := P) (b := b) (k := k) (cs := cs) (w := w) (a := a) (rest := List.range' 1 (ops.size - 1)) ho hw
 rw [hr, Oper.semAt_none] at hgs
 have hfin : ∀ v, (b.atR a (.inRegion ops (0 :: List.range' 1 (ops.size - 1)) :: k)).finish v = b.atR (a.put o.dst v) (.inRegion ops (List.range' 1 (ops.size - 1)) :: k) := by
  intro v; rw [Frame.finish_atR, ho]; rfl
 have hk : (b.atR a (.inRegion ops (0 :: List.range' 1 (ops.size - 1)) :: k)).kind = .deferred := hb
 have htr := tryRecover_deferred hk cs
 have hstep : step P (lone (b.atR a (.inRegion ops (0 :: List.range' 1 (ops.size - 1)) :: k)) cs w) = .next (lone (b.atR (a.put o.dst v) (.inRegion ops (List.range' 1 (ops.size - 1)) :: k)) cs1 w) := by
  refine step_lone_go ?_
  rw [hgs, ← hfin]
  simp only [Frame.atR, hr] at htr ⊢
  rcases hrec with hrec | ⟨hrec, rfl, rfl⟩
  ·
   simp [stepG.apply, hrun, htr, hrec]
  ·
   simp [stepG.apply, hrun, htr, hrec]
 obtain ⟨e, a', w', hq, harr⟩ := wp_opsIn _ _ w h b k cs1 (hr.trans hro.symm) hF (by rw [hlen]; exact hroom)
 refine ⟨e, a', cs1, w', hlen, hq, .of_steps (.head (fenced_calm hF hroom rfl) stepR_region ?_) harr⟩
 rw [hrange]
 exact .one h0 hstep
def REnd (P : Program) [Glob P] (fn : Func) (R : H → Nat → Prop) (e : Exit) (s : S) : Prop := match e with
 | .normal | .ret => Zcv P s fn.results.toList ∧ ∃ h' n', (∀ r, h' r = s.h r ∨ h' r = none) ∧ s.nx ≤ n' ∧ R h' n'
 | _ => False
theorem Zaz [Glob P] {f : FuncId} {fn : Func} {args : List D} {h : H} {n : Nat} {u u' : FrameMode} {R : H → Nat → Prop} {id : Nat} {ops : Array Oper} {y : Code} {o : Oper} {ts : Array TypeId} {d : D} {v : Value}
  (hf : P.funcs[f]? = some fn) (hb : fn.body = some (.seq (.region id ops false) y)) (hbd : Zea P f = true) (hn : args.length ≤ fn.ntmps) (ho : ops[0]? = some o) (hg : o.guard = none) (hop : o.op = .call { callee := .builtin .recover, args := #[], argTypes := ts }) (hd : Zwb fn.ntmps o.dst = true)
  (hu : (u = .returning ∧ u' = .returning ∧ v = .nilIface) ∨ (u = .panicking [{ v := v, recovered := false }] ∧ u' = .panicking [{ v := v, recovered := true }])) (hv : ∀ (w : World) (g : Mem), Rep w g d v)
  (hw : (∀ r, n ≤ r → h r = none) → Zgd P none ops 1 n { n := fn.ntmps, t := S.put { n := fn.ntmps, t := fun i => args.getD i .junk, h := h, nx := n + ops.size } o.dst d, h := h, nx := n + ops.size } (thenS (DW P none y (REnd P fn R)) (REnd P fn R))) : DCt P f args h n u u' R := by
 refine ⟨hbd, fun w g vs hm hU hr => Zhs (F := Fence.wide) hf hb trivial fun c₀ cs hc₀ => wpSIn_seq ?_⟩
 have hs0 := Zfr (P := P) (n := fn.ntmps) hr hn hm (nx := n + ops.size)
 have hs1 : St P (Bot.of w.heap.size) { n := fn.ntmps, t := S.put { n := fn.ntmps, t := fun i => args.getD i .junk, h := h, nx := n + ops.size } o.dst d, h := h, nx := n + ops.size } g (Act.put { tmps := vs.toArray ++ Array.replicate (fn.ntmps - vs.toArray.size) undef, defers := [] } o.dst v) w :=
  Zui hs0 (Mono.refl _ _) hs0.mem hd (hv w g) True
 have hseg := hw (Zfk hm hU) (Bot.of w.heap.size) g g _ w w hs1 (Mono.refl _ _) (fun r hr => by have := hU r hr; omega)
 have hlen : ({ c₀ with mode := u' } :: cs).length = (c₀ :: cs).length := rfl
 have hrecd : recoverD (c₀ :: cs) = some (v, { c₀ with mode := u' } :: cs) ∨ recoverD (c₀ :: cs) = none ∧ v = .nilIface ∧ ({ c₀ with mode := u' } :: cs : List Frame) = c₀ :: cs := by
  rcases hu with ⟨hu1, hu2, hv0⟩ | ⟨hu1, hu2⟩
  ·
   right
   refine ⟨by simp [recoverD, hc₀, hu1], hv0, ?_⟩
   have : ({ c₀ with mode := u' } : Frame) = c₀ := by cases c₀; simp only at hc₀; subst hc₀; rw [hu1, hu2]
   rw [this]
  ·
   left
   simp [recoverD, hc₀, hu1, hu2]
 refine Zro (F := Fence.wide) rfl ho hg (fun _ _ => trivial) (by simp [execOp, hop, resolve, invoke, builtin]) hlen hrecd ?_
 have fin : ∀ (e : Exit) (a' : Act) (w' : World) (s' : S) (g' : Mem), REnd P fn R e s' → St P (Bot.of w.heap.size) s' g' a' w' → Mono g g' w w' → (∀ r, g'.U r → r < s'.nx) →
   Zlu P fn c₀ cs (fun e u2 w' => ∃ v g' h' n', e = .returned v ∧ u2 = u' ∧ HM P h' g' w' ∧ Mono g g' w w' ∧ (∀ r, g'.U r → r < n') ∧ R h' n') e a' ({ c₀ with mode := u' } :: cs) w' := by
  intro e a' w' s' g' hq hs' hm' hU'
  have key : (Zcv P s' fn.results.toList ∧ ∃ h' n', (∀ r, h' r = s'.h r ∨ h' r = none) ∧ s'.nx ≤ n' ∧ R h' n') → Zvm P (fun w2 => ∃ v, (results fn a'.tmps).run P w2 = .ok v w2 ∧ ∃ v2 g' h' n', Ending.returned v = .returned v2 ∧ u' = u' ∧ HM P h' g' w2 ∧ Mono g g' w w2 ∧ (∀ r, g'.U r → r < n') ∧ R h' n') a'.defers w' := by
   rintro ⟨hro, h4, n4, k1, k2, k3⟩
   obtain ⟨ms, hms, hmk⟩ := hs'.df
   have hms : a'.defers = ms := by rw [hms]; simp [Bot.of]
   rw [hms]
   refine Zv8 (P := P) ms w' hmk fun w2 e0 e1 e2 e3 e4 e5 e6 e7 => ?_
   have hs2 := hs'.marks e4 e6 e7
   have mono2 : Mono g g' w w2 := by
    refine ⟨by rw [e1, hm'.os], by rw [e2, hm'.tape], by rw [e3, hm'.output], by rw [e4]; exact hm'.size, by rw [e0]; exact hm'.drawn, hm'.U, hm'.M, hm'.new, hm'.I, hm'.inew, fun k hk hne => ?_⟩
    rw [e5 k hk]; exact hm'.same k hk hne
   have hs3 : St P (Bot.of w.heap.size) { s' with e := Env.tt } g' { a' with defers := [] } w2 := ⟨hs2.sz, hs2.tm, hs2.mem, Dfs.start (B := Bot.of w.heap.size), trivial, hs2.bd⟩
   obtain ⟨v3, p1, p2⟩ := Zxf (fn := fn) hs3 hro
   exact ⟨v3, p1, v3, g'.only h4, h4, n4, rfl, rfl, hs3.mem.only k1, mono2.trans only_mono, fun r hr => Nat.lt_of_lt_of_le (hU' r hr) k2, k3⟩
  cases e with
  | normal => exact ⟨u', rfl, key hq⟩
  | ret => exact ⟨u', rfl, key hq⟩
  | _ => exact hq.elim
 refine Zef (F := Fence.wide) ?_ _ _ _ hseg
 rintro e a' w' ⟨s', g', hq, hs', hm', hU', hx'⟩
 have hm' : Mono g g' w w' := hm'.out
 cases e with
 | normal =>
  refine wpSIn_of_wpIn rfl (wpIn_mono (F := Fence.wide) (hq (Bot.of w.heap.size) g' a' w' hs' hU') ?_)
  rintro e2 a2 w2 ⟨s2, g2, hq2, hs2, hm2, hU2, hx2⟩
  have hx3 : s'.e.x = none := by rw [hx']; rfl
  rw [hx3] at hm2
  exact fin e2 a2 w2 s2 g2 hq2 hs2 (hm'.trans hm2.out) hU2
 | ret => exact fin .ret a' w' s' g' hq hs' hm' hU'
 | _ => exact hq.elim
section
variable [Glob P] {C : Con} {s s1 : S} {ops : Array Oper} {i b : Nat} {o : Oper}
theorem Zvs (k : Nat) {x : Operand} {d r : D} {xT t : TypeId} {v : Value} (z : Value) (hik : i ≤ k) (ho : ops[k]? = some o) (hg : o.guard = none) (hop : o.op = .typeAssert x xT t true) (ht : Zcc P t = true) (hz : (P.info? t).bind (·.zero) = some z)
  (he : Zha P (words P) C ops.toList b i ((ops.toList.drop i).take (k - i)) s = s1) (hok : s1.ok) (hd : Zwb s1.n o.dst = true) (hx : s1.ev x = d) (hv : ∀ (w : World) (g : Mem) q, Rep w g d q → q = v)
  (hr : (v = .nilIface ∧ ∀ (w : World) (g : Mem), Rep w g r (.tuple #[z, .bool false])) ∨ ∃ q, v = .iface t q ∧ ∀ (w : World) (g : Mem), Rep w g r (.tuple #[q, .bool true]))
  (hk : Zgd P ro ops (k + 1) b { n := s1.n, t := s1.put o.dst r, h := s1.h, nx := s1.nx, ok := True, e := s1.e } Q) : Zgd P ro ops i b s Q := by
 refine Zud (C := C) k (fun d h' => d = r ∧ h' = s1.h) hik ho hg (fun c e => by rw [hop] at e; cases e) he hok hd (fun B g a w hst _ => ?_) (fun d h' ⟨hy, hh⟩ => by subst hy; subst hh; exact hk)
 have hxr := Zkb hst x
 rw [hx] at hxr
 have hxv := hv _ _ _ hxr
 obtain ⟨ti, hti, hzi⟩ := Option.bind_eq_some_iff.1 hz
 obtain ⟨u, hu, hni⟩ : ∃ u, P.underlying t = some u ∧ ((∃ fs, u = .struct fs) ∨ ∃ n e, u = .array n e) := by
  unfold Zcc at ht
  split at ht
  ·
   rename_i fs hfs; exact ⟨_, hfs, .inl ⟨_, rfl⟩⟩
  ·
   rename_i n e hfs; exact ⟨_, hfs, .inr ⟨_, _, rfl⟩⟩
  ·
   cases ht
 rcases hr with ⟨rfl, hr⟩ | ⟨q, rfl, hr⟩
 ·
  refine ⟨_, _, ⟨rfl, rfl⟩, _, g, w, .inl ?_, hr w g, hst.mem, Mono.refl _ _, fun r hr => .inl hr⟩
  obtain ⟨od, oo, oty, op, oa, og⟩ := o
  simp only at hop
  subst hop
  rcases hni with ⟨fs, rfl⟩ | ⟨n, e, rfl⟩ <;> simp [execOp, hxv, Instr.typeAssert, run_underlying hu, zeroValue, typeInfo, hti, hzi]
 ·
  refine ⟨_, _, ⟨rfl, rfl⟩, _, g, w, .inl ?_, hr w g, hst.mem, Mono.refl _ _, fun r hr => .inl hr⟩
  obtain ⟨od, oo, oty, op, oa, og⟩ := o
  simp only at hop
  subst hop
  rcases hni with ⟨fs, rfl⟩ | ⟨n, e, rfl⟩ <;> simp [execOp, hxv, Instr.typeAssert, run_underlying hu]
theorem Zej (k : Nat) {x : Operand} {d : D} {t : TypeId} (hik : i ≤ k) (ho : ops[k]? = some o) (hg : o.guard = none) (hop : o.op = .makeInterface t x) (ht : Zcc P t = true)
  (he : Zha P (words P) C ops.toList b i ((ops.toList.drop i).take (k - i)) s = s1) (hok : s1.ok) (hd : Zwb s1.n o.dst = true) (hx : s1.ev x = d)
  (hk : Zgd P ro ops (k + 1) b { n := s1.n, t := s1.put o.dst (.iface t d), h := s1.h, nx := s1.nx, ok := True, e := s1.e } Q) : Zgd P ro ops i b s Q := by
 refine Zud (C := C) k (fun r h' => r = .iface t d ∧ h' = s1.h) hik ho hg (fun c e => by rw [hop] at e; cases e) he hok hd (fun B g a w hst _ => ?_) (fun d h' ⟨hy, hh⟩ => by subst hy; subst hh; exact hk)
 have hxr := Zkb hst x
 rw [hx] at hxr
 obtain ⟨u, hu, hni⟩ : ∃ u, P.underlying t = some u ∧ ((∃ fs, u = .struct fs) ∨ ∃ n e, u = .array n e) := by
  unfold Zcc at ht
  split at ht
  ·
   rename_i fs hfs; exact ⟨_, hfs, .inl ⟨_, rfl⟩⟩
  ·
   rename_i n e hfs; exact ⟨_, hfs, .inr ⟨_, _, rfl⟩⟩
  ·
   cases ht
 refine ⟨_, _, ⟨rfl, rfl⟩, _, g, w, .inl ?_, .iface t d _ hxr, hst.mem, Mono.refl _ _, fun r hr => .inl hr⟩
 obtain ⟨od, oo, oty, op, oa, og⟩ := o
 simp only at hop
 subst hop
 rcases hni with ⟨fs, rfl⟩ | ⟨n, e, rfl⟩ <;> simp [execOp, Instr.makeInterface, run_underlying hu]
end
theorem dw_none [Glob P] {c : Code} {s : S} (h : (∀ r, s.nx ≤ r → s.h r = none) → DW P ro c Q s) : DW P ro c Q s := fun B g a w hs hU => h (Zfk hs.mem hU) B g a w hs hU
theorem dw_gen [Glob P] {c : Code} {s : S} (h : ∀ hq : H, hq = s.h → DW P ro c Q { n := s.n, t := s.t, h := hq, nx := s.nx, e := s.e }) : DW P ro c Q s := by
 intro B g a w hs hU
 exact h s.h rfl B g a w ⟨hs.sz, hs.tm, hs.mem, hs.df, hs.en, hs.bd⟩ hU
end Go.DL
namespace Go.DL
open Go.RowKit
variable {P : Program}
def Zgw (cf : List D → List D → Int) (rows : List (List D)) : Prop := rows.Pairwise fun x y => ¬ cf y x < 0
structure SwoOn (cf : List D → List D → Int) (rows : List (List D)) : Prop where
 irrefl : ∀ x ∈ rows, ¬ cf x x < 0
 trans : ∀ x ∈ rows, ∀ y ∈ rows, ∀ z ∈ rows, cf x y < 0 → cf y z < 0 → cf x z < 0
 ntrans : ∀ x ∈ rows, ∀ y ∈ rows, ∀ z ∈ rows, ¬ cf x y < 0 → ¬ cf y z < 0 → ¬ cf x z < 0
theorem Zah (enc : Nat → List Value) (k : Nat) (w : World) (b m : Nat) (d : Array Nat) (os : Array Obj) (i : Nat) (hi : i < w.heap.size) (hb : i ≠ b) : (Go.Proofs.sortWorldK enc k w b 0 m d os).heap[i]? = w.heap[i]? := by
 unfold Go.Proofs.sortWorldK Go.Sort.putRowK Go.Sort.putRow Go.Sort.mapBlock Go.Sort.grow
 simp only [Go.Sort.ahead]
 rw [Array.getElem?_append_left (by simpa using hi), Array.getElem?_modify, if_neg (Ne.symm hb)]
theorem Zsw (enc : Nat → List Value) (k : Nat) (w : World) (b m : Nat) (d : Array Nat) (os : Array Obj) {cur : Array Value} {ty : TypeId} (hb : w.heap[b]? = some (.cells cur ty (0, 0))) :
  (Go.Proofs.sortWorldK enc k w b 0 m d os).heap[b]? = some (.cells (Go.Sort.putCells id 0 (Go.Sort.flatK enc k d) cur) ty (0, 0)) := by
 have hi : b < w.heap.size := (Array.getElem?_eq_some_iff.1 hb).1
 unfold Go.Proofs.sortWorldK Go.Sort.putRowK Go.Sort.putRow Go.Sort.mapBlock Go.Sort.grow
 simp only [Go.Sort.ahead]
 rw [Array.getElem?_append_left (by simpa using hi), Array.getElem?_modify, if_pos rfl, hb]
 rfl
theorem Zmk (enc : Nat → List Value) (k : Nat) (w : World) (b m : Nat) (d : Array Nat) (os : Array Obj) : (Go.Proofs.sortWorldK enc k w b 0 m d os).heap.size = w.heap.size + os.size := by
 unfold Go.Proofs.sortWorldK Go.Sort.putRowK Go.Sort.putRow Go.Sort.mapBlock Go.Sort.grow
 simp [Go.Sort.ahead]
theorem bel_grow {w w' : World} (h : Bel w w') : ∃ q os, w' = Go.Sort.grow (w.drewN q) os := by
 refine ⟨w'.drawn - w.drawn, w'.heap.extract w.heap.size w'.heap.size, ?_⟩
 obtain ⟨h1, h2, h3, h4, h5, h6⟩ := h
 have hh : w'.heap = w.heap ++ w'.heap.extract w.heap.size w'.heap.size := by
  apply Array.ext_getElem?
  intro i
  by_cases hi : i < w.heap.size
  ·
   rw [Array.getElem?_append_left hi, h6 i hi]
  ·
   rw [Array.getElem?_append_right (by omega), Array.getElem?_extract]
   by_cases hj : i < w'.heap.size
   ·
    rw [if_pos (by omega)]
    congr 1
    omega
   ·
    rw [if_neg (by omega), Array.getElem?_eq_none (by omega)]
 cases w'
 cases w
 simp only at h1 h2 h3 h5 hh
 simp only [Go.Sort.grow, World.drewN, World.mk.injEq]
 refine ⟨hh, h2, ?_, h1, h3⟩
 omega
theorem sort_rct [Glob P] {ρ : Go.Shelf.Ren} (L : Go.Proofs.SlLaysF0.n6 P ρ) {fS ty : Nat} (hfS : ρ.f 6 = fS) (hty : ρ.t 24 = ty) (aE : ∀ w, (isAgg ty).run P w = .ok true w) (zE : ∀ w, (Go.sizeOf ty).run P w = .ok (P.cellsOf ty) w)
  {r nf g : Nat} {rows : List (List D)} {h : H} {caps : List D} (cf : List D → List D → Int) (hbS : Zea P fS = true) (hr : h r = some ⟨ty, rows⟩) (hnr : nrr rows = true) (hcn : caps.all D.nr = true) (hmax : rows.length < 4611686018427387904)
  (hcmp : ∀ x ∈ rows, ∀ y ∈ rows, PureCt P g ([.agg x, .agg y] ++ caps) (.i (cf x y))) (hO : SwoOn cf rows) :
  RCt P fS [.mrow r 0 rows.length, .fn (.func g) [] caps] h nf (fun d h' n' => d = .tuple [] ∧ n' = nf ∧ ∃ rows', rows'.Perm rows ∧ Zgw cf rows' ∧ h' = upd h r (some ⟨ty, rows'⟩)) := by
 refine ⟨hbS, fun w gm vs hm hU hrs => ?_⟩
 obtain ⟨x, vs1, rfl, hx, h1⟩ := hrs.of_cons
 obtain ⟨f, vs2, rfl, hf, h2⟩ := h1.of_cons
 rw [h2.of_nil]
 cases hf with | fn _ _ _ fs cs l1 l2 r1 r2 =>
 have hfs : fs = #[] := Array.eq_empty_of_size_eq_zero (by simpa using l1.symm)
 subst hfs
 cases hx with | mrow _ _ _ _ _ hUr hv =>
 obtain ⟨blk, c, q1, q2, q3, q4, q5⟩ := hm.blk r _ hr
 obtain ⟨v1, v2⟩ := hv _ _ _ q1
 by_cases hne : rows = []
 ·
  subst hne
  have hx' : ∃ p cap, x = .slice p 0 cap := by
   rcases v2 with ⟨_, a, rfl⟩ | ⟨_, b, _, rfl⟩
   ·
    exact ⟨a, 0, rfl⟩
   ·
    exact ⟨_, _, rfl⟩
  obtain ⟨p, cap, rfl⟩ := hx'
  have key := Go.Proofs.AnyF.slices_SortFunc_none L p cap (.func (.func g) #[] cs) w
  rw [hfS] at key
  refine callsIn_wide.2 (key.mono ?_)
  rintro e w' ⟨rfl, rfl⟩
  refine ⟨_, gm, _, h, nf, ⟨rfl, rfl, [], .refl _, .nil, ?_⟩, rfl, .mk_tuple (vs := #[]) .nil, hm, Mono.refl _ _, hU⟩
  funext i
  unfold upd
  split
  ·
   rename_i e; subst e; exact hr
  ·
   rfl
 ·
  have hn0 : 0 < rows.length := List.length_pos_iff.2 hne
  rcases q5 with ⟨_, q5⟩ | ⟨b, cur, rfl, q6, q7, q8, q9⟩
  ·
   simp only at q3; omega
  have q6 := q6.cells v1.2
  have q7 := q7 v1.2
  have q4 := v1.2
  rcases v2 with ⟨e0, a, rfl⟩ | ⟨hc0, b', hb', rfl⟩
  ·
   simp only at q3; omega
  cases hb'
  have hbw : b < w.heap.size := (Array.getElem?_eq_some_iff.1 q6).1
  generalize hk : P.cellsOf ty = k at *
  simp only at q3
  let ix : Nat → Nat := fun i => if i < rows.length then i else 0
  have hix : ∀ i, ix i < rows.length := fun i => by simp only [ix]; split <;> assumption
  have hixs : ∀ i, i < rows.length → ix i = i := fun i hi => by simp only [ix]; rw [if_pos hi]
  let enc : Nat → List Value := fun i => (List.range k).map fun j => cur.getD (ix i * k + j) undef
  have hklen : ∀ i, (enc i).length = k := fun i => by simp [enc]
  have hrow : ∀ i, i < rows.length → (rows.getD i []).length = k ∧ ∀ (j : Nat) d, (rows.getD i [])[j]? = some d → (enc i)[j]? = some (cur.getD (i * k + j) undef) ∧ cur[i * k + j]? = some (cur.getD (i * k + j) undef) ∧ (cur.getD (i * k + j) undef).oneCell' = true ∧ Rep w gm d (cur.getD (i * k + j) undef) := by
   intro i hi
   have e1 : rows[i]? = some (rows.getD i []) := by simp [List.getD, hi]
   obtain ⟨p1, p2⟩ := q9 i _ e1
   simp only [hk] at p1 p2
   refine ⟨p1, fun j d hd => ?_⟩
   obtain ⟨u, u1, u2, u3⟩ := p2 j d hd
   have e2 : cur.getD (i * k + j) undef = u := by simp [Array.getD_eq_getD_getElem?, u1]
   have hj : j < k := by rw [← p1]; exact (List.getElem?_eq_some_iff.1 hd).1
   rw [e2]
   refine ⟨by simp [enc, hj, hixs i hi]; rw [← e2]; simp [Array.getD_eq_getD_getElem?], u1, u2, u3⟩
  have hencI : ∀ i, enc i = enc (ix i) := fun i => by simp only [enc]; rw [hixs (ix i) (hix i)]
  have hone : ∀ i, ∀ v ∈ enc i, v.oneCell' = true := by
   intro i v hv
   rw [hencI] at hv
   obtain ⟨j, hj⟩ := List.getElem?_of_mem hv
   have hjk : j < k := by rw [← hklen (ix i)]; exact (List.getElem?_eq_some_iff.1 hj).1
   obtain ⟨p1, p2⟩ := hrow (ix i) (hix i)
   have hd : (rows.getD (ix i) [])[j]? = some ((rows.getD (ix i) [])[j]'(by omega)) := by simp
   obtain ⟨u1, _, u2, _⟩ := p2 j _ hd
   rw [u1] at hj
   cases hj
   exact u2
  let rw' : Nat → List D := fun i => rows.getD (ix i) []
  have hmem : ∀ i, rw' i ∈ rows := fun i => by
   have : rw' i = rows[ix i]'(hix i) := by simp [rw', List.getD, hix i]
   rw [this]; exact List.getElem_mem _
  let cn : Nat → Nat → Int := fun i j => cf (rw' i) (rw' j)
  have hswo : Go.Sort.SWO (Go.Proofs.ltOf cn) := by
   refine ⟨fun x => ?_, fun x y z p1 p2 => ?_, fun x y z p1 p2 => ?_⟩
   ·
    simp only [Go.Proofs.ltOf, cn, decide_eq_false_iff_not]; exact hO.irrefl _ (hmem x)
   ·
    simp only [Go.Proofs.ltOf, cn, decide_eq_true_eq] at *; exact hO.trans _ (hmem x) _ (hmem y) _ (hmem z) p1 p2
   ·
    simp only [Go.Proofs.ltOf, cn, decide_eq_false_iff_not] at *; exact hO.ntrans _ (hmem x) _ (hmem y) _ (hmem z) p1 p2
  let d : Array Nat := Array.range rows.length
  have hds : d.size = rows.length := by simp [d]
  have hdg : ∀ i, i < rows.length → d[i]! = i := fun i hi => by simp [d, hi]
  have hmodlt : ∀ t, t < rows.length * k → t / k < rows.length ∧ t % k < k := fun t ht => ⟨Nat.div_lt_of_lt_mul (by rw [Nat.mul_comm]; exact ht), Nat.mod_lt _ q2⟩
  have hget : ∀ i j, i < rows.length → j < k → (enc i)[j]! = cur.getD (i * k + j) undef := by
   intro i j hi hj
   obtain ⟨p1, p2⟩ := hrow i hi
   have hd : (rows.getD i [])[j]? = some ((rows.getD i [])[j]'(by omega)) := by simp
   rw [List.getElem!_eq_getElem?_getD, (p2 j _ hd).1]; rfl
  have hH : Go.Sort.HoldsK enc k w b 0 d := by
   intro t ht
   simp only [Go.Sort.size_flatK, hds] at ht
   rw [Go.Sort.get_flatK _ _ _ _ (by rw [hds]; exact ht)]
   obtain ⟨t1, t2⟩ := hmodlt t ht
   rw [hdg _ t1, hget _ _ t1 t2]
   have e : t / k * k + t % k = t := by rw [Nat.mul_comm]; exact Nat.div_add_mod t k
   rw [e, Nat.zero_add]
   have hlt : t < cur.size := by rw [q7]; exact Nat.lt_of_lt_of_le ht (Nat.mul_le_mul_right k q3)
   refine ⟨?_, ?_⟩
   ·
    simp [World.cell?, q6, hlt, id, Array.getD_eq_getD_getElem?]
   ·
    simp [World.frozen?, q6]
  have hcl : Go.Proofs.CmpLays P g cs enc k cn b 0 d.size w := by
   intro m os dk hdk x y
   obtain ⟨hbd, _, hct⟩ := hcmp _ (hmem x) _ (hmem y)
   have hW := Zmk enc k w b m dk os
   have hI : ∀ b', gm.I b' → b' < (Go.Proofs.sortWorldK enc k w b 0 m dk os).heap.size := fun b' hb' => by rw [hW]; have := hm.imm b' hb'; omega
   have hrep : ∀ {d : D} {v : Value}, d.nr = true → Rep w gm d v → Rep (Go.Proofs.sortWorldK enc k w b 0 m dk os) (noM gm.I) d v := by
    intro d v hd hv
    have h1 := Rep.clean (g' := noM gm.I) hv hd (fun b hb => hb)
    refine Rep.mono (g := noM gm.I) (g' := noM gm.I) (fun b' hb' => ⟨hb', ?_⟩) (fun _ h => h) (fun _ h => .inl rfl) h1
    exact Zah enc k w b m dk os b' (hm.imm b' hb') (fun e => q8 (e ▸ hb'))
   have hagg : ∀ i, Rep (Go.Proofs.sortWorldK enc k w b 0 m dk os) (noM gm.I) (.agg (rw' i)) (.agg (enc i).toArray) := by
    intro i
    rw [hencI i]
    obtain ⟨p1, p2⟩ := hrow (ix i) (hix i)
    refine .mk_agg ⟨by rw [p1, hklen], fun j d v e1 e2 => ?_⟩
    obtain ⟨u1, _, _, u4⟩ := p2 j d e1
    rw [u1] at e2
    cases e2
    exact hrep (Zxe (Zsq hnr (hmem i)) (List.mem_of_getElem? e1)) u4
   have hargs : Reps (Go.Proofs.sortWorldK enc k w b 0 m dk os) (noM gm.I) ([.agg (rw' x), .agg (rw' y)] ++ caps) ([.agg (enc x).toArray, .agg (enc y).toArray] ++ cs.toList) := by
    refine Reps.append (.cons (hagg x) (.cons (hagg y) .nil)) ⟨by simpa using l2, fun i d v e1 e2 => ?_⟩
    exact hrep (List.all_eq_true.1 hcn d (List.mem_of_getElem? e1)) (r2 i d v e1 (by simpa using e2))
   have := callsIn_wide.1 (hct _ gm.I _ hI (hm.gr.later fun b' hb' => ⟨hb', Zah enc k w b m dk os b' (hm.imm b' hb') (fun e => q8 (e ▸ hb'))⟩) hargs)
   have ea : ([.agg (enc x).toArray, .agg (enc y).toArray] ++ cs.toList : List Value).toArray = #[.agg (enc x).toArray, .agg (enc y).toArray] ++ cs := by apply Array.ext'; simp
   rw [ea] at this
   refine this.mono ?_
   rintro e w' ⟨v, rfl, hb, hv⟩
   refine ⟨?_, bel_grow hb⟩
   rw [hv.v_inv]
  have key := Go.Proofs.AnyQ.slices_SortFunc L k (by rw [hty]; exact aE) (by rw [hty]; exact zE) enc hklen hone cn hswo g cs b 0 c d w (fun args w => Zed (hcmp _ (hmem 0) _ (hmem 0)).1 args w) hcl hH hbw (by rw [hds]; exact hmax)
  rw [hfS, hds] at key
  have ev : (Value.slice (some ⟨b, 0 * k, Option.none⟩) rows.length (c - 0)) = Value.slice (some ⟨b, 0, Option.none⟩) rows.length c := by simp
  rw [ev]
  refine callsIn_wide.2 (key.mono ?_)
  rintro e w' ⟨rfl, d', n', os, hperm, hsort, rfl⟩
  obtain ⟨hsz, _, hpm⟩ := hperm
  rw [hds] at hsz
  have hex : ∀ a : Array Nat, a.size = rows.length → a.extract 0 rows.length = a := fun a ha => by rw [← ha]; exact Array.extract_size
  rw [hex d' hsz, hex d hds] at hpm
  have hlt' : ∀ i, i < rows.length → d'[i]! < rows.length := by
   intro i hi
   have h1 : d'[i]! ∈ d'.toList := by
    rw [getElem!_pos d' i (by omega)]
    simp
   have := hpm.mem_iff.1 h1
   simpa [d] using this
  let rows' : List (List D) := d'.toList.map rw'
  have hrows : d.toList.map rw' = rows := by
   apply List.ext_getElem?
   intro i
   by_cases hi : i < rows.length
   ·
    simp [d, hi, rw', hixs i hi, List.getD]
   ·
    simp [d, hi]
  have hP : rows'.Perm rows := by rw [← hrows]; exact hpm.map rw'
  have hS : Zgw cf rows' := by
   unfold Zgw
   rw [List.pairwise_iff_getElem]
   intro i j hi hj hij
   have hj' : j < rows.length := by simpa [rows', hsz] using hj
   have := hsort i j (Nat.zero_le _) hij hj'
   simp only [Go.Proofs.ltOf, cn, decide_eq_false_iff_not] at this
   rw [getElem!_pos d' i (by omega), getElem!_pos d' j (by omega)] at this
   simpa [rows'] using this
  have hl' : rows'.length = rows.length := by simp [rows', hsz]
  have hput := hm.put (h' := upd h r (some ⟨ty, rows'⟩)) (w' := Go.Proofs.sortWorldK enc k w b 0 n' d' os) r b c ⟨ty, rows'⟩ (Go.Sort.putCells id 0 (Go.Sort.flatK enc k d') cur)
   (.inr (by simp only [hk]; exact q1)) (upd_same _ _ _) (fun r' hr' => .inl (upd_ne _ _ _ _ hr')) (.inr ⟨r, c, _, q1, .inl rfl⟩) (Zsw enc k w b n' d' os q6) (by simp [Go.Sort.putCells, q7, hk]) (by simp only [hk]; exact q2)
   (by simp only [hl']; exact q3) q4 (by
    intro i row hi
    have hil : i < rows.length := by rw [← hl']; exact (List.getElem?_eq_some_iff.1 hi).1
    have e1 : row = rows.getD (d'[i]!) [] := by
     simp only [rows', List.getElem?_map] at hi
     rw [getElem!_pos d' i (by omega)]
     have : d'.toList[i]? = some d'[i] := by simp
     rw [this] at hi
     simp only [Option.map_some, Option.some.injEq] at hi
     rw [← hi]
     simp only [rw']
     rw [hixs _ (by have := hlt' i hil; rwa [getElem!_pos d' i (by omega)] at this)]
    obtain ⟨p1, p2⟩ := hrow _ (hlt' i hil)
    rw [← e1] at p1 p2
    simp only [hk]
    refine ⟨p1, fun j dd hd => ?_⟩
    have hjk : j < k := by rw [← p1]; exact (List.getElem?_eq_some_iff.1 hd).1
    obtain ⟨u1, u2, u3, u4⟩ := p2 j dd hd
    have hbound : i * k + j < rows.length * k := by
     have := Nat.mul_le_mul_right k (show i + 1 ≤ rows.length from hil)
     rw [Nat.add_mul, Nat.one_mul] at this; omega
    have hcs : i * k + j < cur.size := by rw [q7]; exact Nat.lt_of_lt_of_le hbound (Nat.mul_le_mul_right k q3)
    refine ⟨_, ?_, u3, u4⟩
    have hdiv : (i * k + j) / k = i := by rw [Nat.mul_comm, Nat.mul_add_div q2, Nat.div_eq_of_lt hjk]; rfl
    have hmod : (i * k + j) % k = j := by rw [Nat.mul_comm, Nat.mul_add_mod, Nat.mod_eq_of_lt hjk]
    simp only [Go.Sort.putCells, Array.getElem?_mapIdx, Array.getElem?_eq_getElem hcs, Option.map_some]
    rw [if_pos ⟨Nat.zero_le _, by simp only [Go.Sort.size_flatK, hsz]; omega⟩, Nat.sub_zero, Go.Sort.get_flatK _ _ _ _ (by rw [hsz]; exact hbound), hdiv, hmod, hget _ _ (hlt' i hil) hjk]
    rfl)
   ⟨rfl, rfl, rfl, by rw [Zmk]; omega, fun i hi hne => Zah enc k w b n' d' os i hi (fun e => hne (by rw [e]))⟩ (by unfold Go.Proofs.sortWorldK Go.Sort.putRowK Go.Sort.putRow Go.Sort.mapBlock Go.Sort.grow Go.Sort.ahead; exact Nat.le_add_right _ _)
  obtain ⟨g', g1, g2, g3, g4, g5⟩ := hput
  exact ⟨_, g', _, _, nf, ⟨rfl, rfl, rows', hP, hS, rfl⟩, rfl, .mk_tuple (vs := #[]) .nil, g4, g5, fun r' hr' => by
   rcases (g2 r').1 hr' with h | h
   ·
    exact hU _ h
   ·
    subst h; exact hU _ hUr⟩
end Go.DL
namespace Go.Zon
open Go.DL
def semB (f : D) : Sgd → Bool := match f with
 | .fn (.func k) _ [d] => if k = 71 then isNm (chgp1 d).set.name else isNm (setp1 d).name
 | _ => notPl
@[go_sem] theorem semB_pl : semB (.fn (.func 69) [] []) = notPl := rfl
@[go_sem] theorem semB_ho {l : List D} : semB (.fn (.func 71) [] [.eptr l]) = isNm (chgp1 (.eptr l)).set.name := rfl
@[go_sem] theorem semB_na {l : List D} : semB (.fn (.func 123) [] [.eptr l]) = isNm (setp1 (.eptr l)).name := rfl
end Go.Zon
namespace Go.DL
open Go.RowKit Go.ChangeShapes Go.WideShapes
variable {P : Program}
def ShSt (Q : TypeId → List D → Prop) : List Field → List D → Prop
 | [], ds => ds = []
 | f :: fs, ds => ∃ a b, ds = a ++ b ∧ Q f.type a ∧ ShSt Q fs b
def Sh (P : Program) [Glob P] : Nat → TypeId → List D → Prop
 | 0, _, _ => False
 | k + 1, t, ds => match P.underlying t with
  | some .bool => ∃ b, ds = [.v (.bool b)]
  | some (.int q) => ∃ n, ds = [.v (.int q n)] ∧ (Lit.int q n).wf = true
  | some .string => ∃ s, ds = [.v (.string s)] ∧ s.size ≤ maxLen
  | some (.slice e) => ∃ rows, ds = [.list false rows] ∧ ∀ r ∈ rows, Sh P k e r
  | some (.struct fs) => ShSt (Sh P k) fs.toList ds
  | _ => False
def shB (P : Program) [Glob P] : Nat → TypeId → Bool
 | 0, _ => false
 | k + 1, t => match P.underlying t with
  | some .bool | some (.int _) | some .string => true
  | some (.slice e) => decide (0 < P.cellsOf e) && decide (e < P.types.size) && shB P k e
  | some (.struct fs) => fs.toList.all fun f => decide (f.type < P.types.size) && shB P k f.type
  | _ => false
def RepC (w : World) (g : Mem) (ds : List D) (cs : List Value) : Prop := Reps w g ds cs ∧ ∀ v ∈ cs, v.oneCell' = true
theorem RepC.nil {w : World} {g : Mem} : RepC w g [] [] := ⟨.nil, fun v h => by cases h⟩
theorem RepC.one {w : World} {g : Mem} {d : D} {v : Value} (h : Rep w g d v) (h1 : v.oneCell' = true) : RepC w g [d] [v] :=
 ⟨.cons h .nil, fun u hu => by rw [List.mem_singleton] at hu; subst hu; exact h1⟩
theorem RepC.append {w : World} {g : Mem} {ds es : List D} {cs us : List Value} (h : RepC w g ds cs) (k : RepC w g es us) : RepC w g (ds ++ es) (cs ++ us) :=
 ⟨h.1.append k.1, fun v hv => (List.mem_append.1 hv).elim (h.2 v) (k.2 v)⟩
theorem Zvr {w : World} {a : Addr} {v : Value} (h : w.cell? a = some v) : a.block < w.heap.size := by
 unfold World.cell? at h
 split at h
 ·
  rename_i c _ _ hb; exact (Array.getElem?_eq_some_iff.1 hb).1
 ·
  cases h
theorem Yta {w : World} {base : Nat} {a : Addr} {n : Nat} {cs : List Value} (h : w.cells? base a n = some cs) : cs.length = n ∧ ∀ j, j < n → w.cell? (a.add j) = cs[j]? := by
 unfold World.cells? at h
 split at h
 ·
  have key : ∀ (l : List Nat) (cs : List Value), l.mapM (fun i => w.cell? (a.add i)) = some cs → cs.length = l.length ∧ ∀ (j i : Nat), l[j]? = some i → w.cell? (a.add i) = cs[j]? := by
   intro l
   induction l with
   | nil => intro cs h; simp at h; subst h; exact ⟨rfl, fun j i h => by simp at h⟩
   | cons i l ih =>
    intro cs h
    rw [List.mapM_cons] at h
    cases hc : w.cell? (a.add i) with
    | none => rw [hc] at h; simp at h
    | some v =>
     rw [hc] at h
     simp only [Option.bind_eq_bind, Option.bind_some] at h
     cases hr : l.mapM (fun i => w.cell? (a.add i)) with
     | none => rw [hr] at h; simp at h
     | some r =>
      rw [hr] at h
      simp at h
      subst h
      obtain ⟨h1, h2⟩ := ih r hr
      refine ⟨by simp [h1], fun j i' hj => ?_⟩
      cases j with
      | zero => simp at hj; subst hj; simpa using hc
      | succ j => simp at hj; simpa using h2 j i' hj
  obtain ⟨h1, h2⟩ := key _ _ h
  exact ⟨by simpa using h1, fun j hj => h2 j j (by simp [hj])⟩
 ·
  cases h
theorem Zqf {α : Type} (l : List α) (m n : Nat) : (l.drop m).take n ++ (l.drop (m + n)) = l.drop m := by
 rw [← List.drop_drop]; exact List.take_append_drop n (l.drop m)
theorem reads [Glob P] {H : Type} {enc : TypeId × Value → H} {w : World} {base : Nat} {spare : Nat → Bool} {held : Bool} (hl : laidOutB P = true) :
  ∀ (k : Nat) (t : TypeId) (cs : List Value) (fuel : Nat) (x : DataW H × List MemPlace), t < P.types.size → shB P k t = true → DataW.trod enc P w base spare held fuel t cs = some x →
   ∃ ds, Sh P k t ds ∧ RepC w (noM fun b => b < w.heap.size) ds cs := by
 intro k
 induction k with
 | zero => intro t cs fuel x _ h; cases h
 | succ k ih =>
  intro t cs fuel x htl hs hr
  unfold shB at hs
  unfold Sh
  split at hs
  ·
   rename_i hu
   obtain ⟨b, rfl, _⟩ := DataW.trod_bool hu hr
   exact ⟨_, ⟨b, rfl⟩, .one (.v _) rfl⟩
  ·
   rename_i q hu
   obtain ⟨n, rfl, _, hw⟩ := DataW.trod_int hu hr
   exact ⟨_, ⟨n, rfl, hw⟩, .one (.v _) rfl⟩
  ·
   rename_i hu
   obtain ⟨s, rfl, _, hw⟩ := DataW.trod_string hu hr
   exact ⟨_, ⟨s, rfl, hw⟩, .one (.v _) rfl⟩
  ·
   rename_i e hu
   simp only [Bool.and_eq_true, decide_eq_true_eq] at hs
   obtain ⟨⟨hpos, hel⟩, hs⟩ := hs
   rcases DataW.trod_slice hu hr with ⟨rfl, _⟩ | ⟨a, len, cap, elems, rest, n, _, rfl, _, _, hlc, hcm, hlen, hrd, _, _⟩
   ·
    exact ⟨_, ⟨[], rfl, fun r h => by cases h⟩, .one (.empty false none 0 (fun h => by cases h) (by simp [maxLen])) rfl⟩
   ·
    have hrow : ∀ i, i < len → ∃ ds, Sh P k e ds ∧ ds.length = P.cellsOf e ∧ ∀ (j : Nat) d, ds[j]? = some d → ∃ v, w.cell? (a.add (i * P.cellsOf e + j)) = some v ∧ v.oneCell' = true ∧ Rep w (noM fun b => b < w.heap.size) d v := by
     intro i hi
     have h1 := hrd i hi
     have h2 : elems[i]? = some (elems[i]'(by omega)) := List.getElem?_eq_getElem _
     rw [h2] at h1
     rw [Option.bind_eq_some_iff] at h1
     obtain ⟨cs', hc, ht⟩ := h1
     obtain ⟨hcl, hcg⟩ := Yta hc
     obtain ⟨ds, hsh, ⟨hrl, hrr⟩, ho⟩ := ih e cs' n _ hel hs ht
     refine ⟨ds, hsh, by rw [hrl, hcl], fun j d hd => ?_⟩
     have hj : j < cs'.length := by rw [← hrl]; exact (List.getElem?_eq_some_iff.1 hd).1
     have hcj := hcg j (by omega)
     rw [add_add'] at hcj
     have hg : cs'[j]? = some (cs'[j]'hj) := List.getElem?_eq_getElem _
     exact ⟨cs'[j]'hj, by rw [hcj, hg], ho _ (List.getElem_mem _), hrr j d _ hd hg⟩
    have hch : ∃ rows : List (List D), rows.length = len ∧ ∀ i r, rows[i]? = some r → Sh P k e r ∧ r.length = P.cellsOf e ∧ ∀ (j : Nat) d, r[j]? = some d → ∃ v, w.cell? (a.add (i * P.cellsOf e + j)) = some v ∧ v.oneCell' = true ∧ Rep w (noM fun b => b < w.heap.size) d v := by
     refine ⟨(List.range len).map fun i => if h : i < len then Classical.choose (hrow i h) else [], by simp, fun i r hr => ?_⟩
     rw [List.getElem?_map] at hr
     by_cases hi : i < len
     ·
      rw [List.getElem?_range hi] at hr
      simp only [Option.map_some, Option.some.injEq] at hr
      rw [dif_pos hi] at hr
      subst hr
      exact Classical.choose_spec (hrow i hi)
     ·
      rw [List.getElem?_eq_none (by simpa using hi)] at hr; cases hr
    obtain ⟨rows, hrl, hrr⟩ := hch
    refine ⟨_, ⟨rows, rfl, fun r h => by obtain ⟨i, hi⟩ := List.getElem?_of_mem h; exact (hrr i r hi).1⟩, .one ?_ rfl⟩
    cases hz : len with
    | zero =>
     subst hz
     have : rows = [] := List.eq_nil_of_length_eq_zero hrl
     subst this
     exact .empty false _ _ (fun h => by cases h) hcm
    | succ m =>
     rw [← hz, ← hrl]
     have hcv : ∀ i j, ∃ u, ∀ row d, rows[i]? = some row → row[j]? = some d → w.cell? (a.add (i * P.cellsOf e + j)) = some u ∧ u.oneCell' = true ∧ Rep w (noM fun b => b < w.heap.size) d u := by
      intro i j
      by_cases hh : ∃ row d, rows[i]? = some row ∧ row[j]? = some d
      ·
       obtain ⟨row, d, q1, q2⟩ := hh
       obtain ⟨u, q3⟩ := (hrr i row q1).2.2 j d q2
       refine ⟨u, fun row' d' q1' q2' => ?_⟩
       rw [q1] at q1'; cases q1'
       rw [q2] at q2'; cases q2'
       exact q3
      ·
       exact ⟨undef, fun row d q1 q2 => absurd ⟨row, d, q1, q2⟩ hh⟩
     have hcs : ∀ i j row d, rows[i]? = some row → row[j]? = some d → w.cell? (a.add (i * P.cellsOf e + j)) = some (Classical.choose (hcv i j)) ∧ (Classical.choose (hcv i j)).oneCell' = true ∧ Rep w (noM fun b => b < w.heap.size) d (Classical.choose (hcv i j)) := fun i j row d h1 h2 => Classical.choose_spec (hcv i j) row d h1 h2
     refine .list false rows a cap (P.cellsOf e) (fun i j => Classical.choose (hcv i j)) ?_ (by omega) (fun h => by cases h) hcm (fun r hr => ?_) (fun i j r d h1 h2 => ⟨(hcs i j r d h1 h2).1, (hcs i j r d h1 h2).2.1⟩) fun i j r d h1 h2 => (hcs i j r d h1 h2).2.2
     ·
      show a.block < w.heap.size
      have h0 : rows[0]? = some (rows[0]'(by omega)) := List.getElem?_eq_getElem _
      obtain ⟨_, q2, q3⟩ := hrr 0 _ h0
      have h1 : (rows[0]'(by omega))[0]? = some ((rows[0]'(by omega))[0]'(by omega)) := List.getElem?_eq_getElem _
      obtain ⟨v, hv, _⟩ := q3 0 _ h1
      have := Zvr hv
      rwa [block_add] at this
     ·
      obtain ⟨i, hi⟩ := List.getElem?_of_mem hr
      exact (hrr i r hi).2.1
  ·
   rename_i fs hu
   obtain ⟨xs, n, _, _, hcl, hxl, hf⟩ := DataW.trod_struct hu hr
   obtain ⟨_, hsum, hoff⟩ := kid_struct hl htl hu
   simp only [List.all_eq_true, Bool.and_eq_true, decide_eq_true_eq] at hs
   have key : ∀ (fl : List Field) (i off : Nat), fs.toList.drop i = fl → off = ((fs.toList.take i).map fun f => P.cellsOf f.type).sum → ∃ ds, ShSt (Sh P k) fl ds ∧ RepC w (noM fun b => b < w.heap.size) ds (cs.drop off) := by
    intro fl
    induction fl with
    | nil =>
     intro i off hd ho
     have hil : fs.toList.length ≤ i := by
      have := congrArg List.length hd
      simp only [List.length_drop, List.length_nil] at this; omega
     have : off = cs.length := by rw [hcl, hsum, ho, List.take_of_length_le hil]
     rw [this, List.drop_length]
     exact ⟨[], rfl, .nil⟩
    | cons f fl ihf =>
     intro i off hd ho
     have hil : i < fs.toList.length := by
      have := congrArg List.length hd
      simp only [List.length_drop, List.length_cons] at this; omega
     have hfi : fs.toList[i]? = some f := by
      have : (fs.toList.drop i)[0]? = some f := by rw [hd]; rfl
      simpa using this
     have hofs := hoff i f hfi
     have hxi : xs[i]? = some (xs[i]'(by rw [hxl]; simpa using hil)) := List.getElem?_eq_getElem _
     have hrd := hf i f (by simpa using hfi)
     rw [hxi, hofs, ← ho] at hrd
     have hmem := List.mem_of_getElem? hfi
     obtain ⟨ds1, h1, h2⟩ := ih f.type _ n _ (hs f hmem).1 (hs f hmem).2 hrd
     have htk : fs.toList.take (i + 1) = fs.toList.take i ++ [f] := by rw [List.take_add_one, hfi]; rfl
     obtain ⟨ds2, h3, h4⟩ := ihf (i + 1) (off + P.cellsOf f.type) (by rw [← List.drop_drop, hd]; rfl) (by rw [htk, List.map_append, List.sum_append, ← ho]; simp)
     refine ⟨ds1 ++ ds2, ⟨ds1, ds2, rfl, h1, h3⟩, ?_⟩
     rw [← Zqf cs off (P.cellsOf f.type)]
     exact h2.append h4
   obtain ⟨ds, h1, h2⟩ := key fs.toList 0 0 rfl (by simp)
   exact ⟨ds, h1, by simpa using h2⟩
  ·
   cases hs
def Zzp : Nat := 12
def ShV (P : Program) [Glob P] (t : TypeId) (x : D) : Prop := match P.underlying t with
 | some (.struct _) => ∃ cs, x = .agg cs ∧ Sh P Zzp t cs
 | _ => Sh P Zzp t [x]
def ShArgs (P : Program) [Glob P] : List TypeId → List D → Prop
 | [], xs => xs = []
 | t :: ts, xs => ∃ x ys, xs = x :: ys ∧ ShV P t x ∧ ShArgs P ts ys
theorem readV [Glob P] {H : Type} {enc : TypeId × Value → H} {w : World} {spare : Nat → Bool} {held : Bool} {b0 : Nat} {t : TypeId} {v : Value} {d : DataW H} {ps : List MemPlace} (hl : laidOutB P = true) (htl : t < P.types.size) (hs : shB P Zzp t = true) (hv : Value.okWide P w .any b0 t v) (h : DataW.Trod enc P w 0 spare held t v d ps) :
  ∃ x, ShV P t x ∧ Rep w (noM fun b => b < w.heap.size) x v := by
 obtain ⟨fuel, h⟩ := h
 obtain ⟨ds, h1, h2⟩ := reads hl Zzp t v.cells.toList fuel _ htl hs h
 have one : v.cells = #[v] → ShV P t (ds.headD .junk) ∧ Rep w (noM fun b => b < w.heap.size) (ds.headD .junk) v ∨ (∃ fs, P.underlying t = some (.struct fs)) := by
  intro hc
  rw [hc] at h2
  have hlen : ds.length = 1 := h2.1.1
  match ds, hlen with
  | [x], _ =>
   by_cases hst : ∃ fs, P.underlying t = some (.struct fs)
   ·
    exact .inr hst
   ·
    refine .inl ⟨?_, h2.1.head⟩
    unfold ShV
    split
    ·
     rename_i fs hu; exact absurd ⟨fs, hu⟩ hst
    ·
     exact h1
 unfold Zzp shB at hs
 split at hs
 ·
  rename_i hu
  obtain ⟨b, rfl⟩ := okWide_bool hu hv
  rcases one rfl with h | ⟨fs, h⟩
  ·
   exact ⟨_, h⟩
  ·
   rw [hu] at h; cases h
 ·
  rename_i q hu
  obtain ⟨n, rfl⟩ := okWide_int hu hv
  rcases one rfl with h | ⟨fs, h⟩
  ·
   exact ⟨_, h⟩
  ·
   rw [hu] at h; cases h
 ·
  rename_i hu
  obtain ⟨s, rfl⟩ := okWide_string hu hv
  rcases one rfl with h | ⟨fs, h⟩
  ·
   exact ⟨_, h⟩
  ·
   rw [hu] at h; cases h
 ·
  rename_i e hu
  obtain ⟨a, len, cap, rfl⟩ := okWide_slice hu hv
  rcases one rfl with h | ⟨fs, h⟩
  ·
   exact ⟨_, h⟩
  ·
   rw [hu] at h; cases h
 ·
  rename_i fs hu
  obtain ⟨cs, rfl, _⟩ := okWide_struct hu hv
  refine ⟨.agg ds, ?_, .mk_agg ?_⟩
  ·
   unfold ShV; rw [hu]; exact ⟨ds, rfl, h1⟩
  ·
   have : (Value.agg cs).cells = cs := rfl
   rw [this] at h2
   exact h2.1
 ·
  cases hs
theorem readAll [Glob P] {H : Type} {enc : TypeId × Value → H} {w : World} {spare : Nat → Bool} {held : Bool} {b0 : Nat} (hl : laidOutB P = true) : ∀ (ts : List TypeId) (vs : List Value) (ds : List (DataW H)) (ps : List MemPlace), (∀ t ∈ ts, t < P.types.size ∧ shB P Zzp t = true) →
  (∀ (j : Nat) t v, ts[j]? = some t → vs[j]? = some v → Value.okWide P w .any b0 t v) → DataW.TrodAll enc P w 0 spare held ts vs ds ps → ∃ xs, ShArgs P ts xs ∧ Reps w (noM fun b => b < w.heap.size) xs vs
 | [], [], [], _, _, _, _ => ⟨[], rfl, .nil⟩
 | t :: ts, v :: vs, d :: ds, ps, ht, hv, ⟨p, q, h1, h2, _⟩ => by
  obtain ⟨x, hx1, hx2⟩ := readV hl (ht t (by simp)).1 (ht t (by simp)).2 (hv 0 t v rfl rfl) h1
  obtain ⟨xs, hy1, hy2⟩ := readAll hl ts vs ds q (fun t' h => ht t' (by simp [h])) (fun j t' v' e1 e2 => hv (j + 1) t' v' (by simpa using e1) (by simpa using e2)) h2
  exact ⟨x :: xs, ⟨x, xs, rfl, hx1, hy1⟩, .cons hx2 hy2⟩
theorem bel_kept {W W' : World} (hb : Bel W W') (may : MemPlace → Prop) : W.keptBut W' may := by
 refine ⟨hb.os, hb.output, fun i hi => ?_⟩
 rw [hb.block i hi]
 cases h : W.heap[i]? with
 | none => trivial
 | some o =>
  cases o <;> first
   | exact ⟨rfl, rfl, rfl, fun _ _ => rfl⟩
   | exact .inr ⟨rfl, rfl⟩
   | rfl
theorem Zil [Glob P] {H : Type} {enc : TypeId × Value → H} {W W' : World} (hl : laidOutB P = true) (hb : Bel W W') : ∀ (ts : List TypeId) (vs : List Value) (ds : List (DataW H)) (ps : List MemPlace), (∀ t ∈ ts, P.readableRec t = true ∧ t < P.types.size) →
  DataW.TrodAll enc P W 0 (fun _ => true) true ts vs ds ps → (∀ x ∈ ps, x.block < W.heap.size) → ∀ sp : Nat → Bool, (∀ x ∈ ps, sp x.block = true) → DataW.TrodAll enc P W' 0 sp true ts vs ds ps
 | [], [], [], _, _, h, _, _, _ => h
 | t :: ts, v :: vs, d :: ds, ps, ht, ⟨p, q, h1, h2, e⟩, hlt, sp, hsp => by
  subst e
  have hbe : Below W.heap.size W W' := ⟨hb.os, hb.tape, hb.output, hb.size, hb.block⟩
  exact ⟨p, q, WideElems.Trod_stays hl (ht t (by simp)).1 (ht t (by simp)).2 h1 (fun x hx => hbe.same (hlt x (List.mem_append_left _ hx))) (fun x hx => hsp x (List.mem_append_left _ hx)),
   Zil hl hb ts vs ds q (fun t' h => ht t' (by simp [h])) h2 (fun x hx => hlt x (List.mem_append_right _ hx)) sp (fun x hx => hsp x (List.mem_append_right _ hx)), rfl⟩
theorem law_contract_g [Glob P] {H : Type} {enc : TypeId × Value → H} {f : FuncId} {fn : Func} {s : ChangeSpec} {tb : TypeId} {apart fresh handsOn again : Bool} (hl : laidOutB P = true) (hvars : s.vars = []) (hrt : fn.resultTypes = #[tb]) (hbool : P.underlying tb = some .bool)
  (hpar : (fn.params.toList.all fun t => P.readableRec t && decide (t < P.types.size) && shB P Zzp t) = true)
  (hfn : ∀ ds : List (DataW H), ds.length = fn.params.toList.length → s.fn H ds = { results := [.lit (.bool true)], args := ds })
  (hct : ∀ xs : List D, ShArgs P fn.params.toList xs → PureCt P f xs (.b true)) :
  ∀ (W : World) (base : Nat) (args : Array Value) (ds gs : List (DataW H)) (before : List MemPlace), Gr P (fun b => b < W.heap.size) W → (∀ (j : Nat) t v, fn.params[j]? = some t → args[j]? = some v → Value.okWide P W .any base t v) →
   DataW.Whole enc P fn.params.toList s.vars apart W args.toList ds gs before →
   Calls P f args W fun e W' => ∃ v, e = .returned v ∧ s.post enc P fn apart fresh handsOn again W args v W' := by
 intro W base args ds gs before hgr hval hW
 simp only [List.all_eq_true, Bool.and_eq_true, decide_eq_true_eq] at hpar
 have hW' := hW
 obtain ⟨p, q, hA, hV, hpq, hfz, hnd⟩ := hW
 rw [hvars] at hV
 obtain ⟨rfl, rfl⟩ : gs = [] ∧ q = [] := by
  cases gs with
  | nil => exact ⟨rfl, hV⟩
  | cons g gs => exact False.elim hV
 rw [List.append_nil] at hpq
 obtain ⟨xs, hx1, hx2⟩ := readAll hl _ _ _ _ (fun t ht => ⟨(hpar t ht).1.2, (hpar t ht).2⟩) (fun j t v h1 h2 => hval j t v (by simpa using h1) (by simpa using h2)) hA
 obtain ⟨_, _, hct⟩ := hct xs hx1
 have hlen : ∀ {ts : List TypeId} {vs : List Value} {ds : List (DataW H)} {ps : List MemPlace}, DataW.TrodAll enc P W 0 (fun _ => true) true ts vs ds ps → ds.length = ts.length := by
  intro ts
  induction ts with
  | nil => intro vs ds ps h; cases vs <;> cases ds <;> first | rfl | exact False.elim h
  | cons t ts ih =>
   intro vs ds ps h
   cases vs <;> cases ds <;> first | exact False.elim h | skip
   obtain ⟨_, _, _, h2, _⟩ := h
   simp [ih h2]
 have hres := hfn ds (hlen hA)
 have := callsIn_wide.1 (hct W (fun b => b < W.heap.size) _ (fun b h => h) hgr hx2)
 have ea : args.toList.toArray = args := by simp
 rw [ea] at this
 refine this.mono ?_
 rintro e W' ⟨v, rfl, hb, hv⟩
 rw [hv.v_inv]
 refine ⟨_, rfl, ?_⟩
 have hlt : ∀ x ∈ before, x.block < W.heap.size := fun x hx => hW'.lt x hx
 have hsp : ∀ sp : Nat → Bool, (∀ x ∈ before, sp x.block = true) → DataW.TrodAll enc P W' 0 sp true fn.params.toList args.toList ds before := by
  intro sp h
  rw [hpq] at h hlt ⊢
  exact Zil hl hb _ _ _ _ (fun t ht => (hpar t ht).1) hA hlt sp h
 have hfn' : s.fn H (ds ++ []) = { results := [.lit (.bool true)], args := ds } := by rw [List.append_nil]; exact hres
 have hrs : ∀ (b : Nat) (sp : Nat → Bool) (hd : Bool), DataW.TrodAll enc P W' b sp hd fn.resultTypes.toList ((Value.bool true).resultList fn.resultTypes.size) [.lit (.bool true)] [] := by
  intro b sp hd
  rw [hrt]
  exact trodAll_cons_mk (shut_bool hbool _) trodAll_mk0
 have hold : ∀ x ∈ before, (fun b => decide (b < W.heap.size)) x.block = true := fun x hx => by simpa using hlt x hx
 have hvs : ∀ sp : Nat → Bool, DataW.TrodVars enc P W' sp s.vars [] [] := fun sp => by rw [hvars]; exact rfl
 have hfz' : ∀ x ∈ before, ∀ b off, x = MemPlace.cell b off → W'.frozen? ⟨b, off, none⟩ = false := by
  intro x hx b off e
  subst e
  have hbl : b < W.heap.size := hlt _ hx
  have e2 : W'.frozen? ⟨b, off, none⟩ = W.frozen? ⟨b, off, none⟩ := World.frozen?_of_block (hb.block b hbl)
  rw [e2]
  exact hfz b off hx
 unfold ChangeSpec.post
 refine ⟨ds, [], before, [], before, [], hW', ?_, ?_, ?_, World.keptBut_mono (fun x hx => ⟨hx, .inr (.inl hx)⟩) (bel_kept hb (· ∈ before)), fun _ => ⟨?_, ?_⟩⟩
 ·
  rw [hfn']; exact hrs _ _ _
 ·
  rw [hfn']; exact hsp _ hold
 ·
  rw [hfn']; exact hvs _
 ·
  exact ok_one hrt rfl (okWide_bool_mk hbool _)
 ·
  refine ⟨_, [], ([] ++ before) ++ [], ⟨[] ++ before, [], trodAll_append (hsp _ fun _ _ => rfl) (hrs _ _ _), hvs _, rfl, ?_, ?_⟩, ?_⟩
  ·
   intro b off hx
   exact hfz' _ (by simpa using hx) b off rfl
  ·
   intro ha
   simpa using hnd ha
  ·
   intro x hx _
   simpa using hx
end Go.DL
namespace Go.DL
open Go.RowKit Go.ChangeShapes Go.WideShapes
variable {P : Program}
def litV : Lit → Value
 | .bool b => .bool b
 | .int k n => .int k n
 | .string s => .string ⟨s.toArray⟩
 | _ => undef
def Ztg {H : Type} : Nat → DataW H → List Value
 | 0, _ => []
 | k + 1, d => match d with
  | .lit l => [litV l]
  | .agg ds => ds.flatMap (Ztg k)
  | _ => []
def litB (P : Program) : Nat → TypeId → Bool
 | 0, _ => false
 | k + 1, t => match P.underlying t with
  | some .bool | some (.int _) | some .string => true
  | some (.array _ e) => decide (e < P.types.size) && litB P k e
  | some (.struct fs) => fs.toList.all fun f => decide (f.type < P.types.size) && litB P k f.type
  | _ => false
theorem lits {H : Type} {enc : TypeId × Value → H} {w : World} {base : Nat} {spare : Nat → Bool} {held : Bool} (hl : laidOutB P = true) :
  ∀ (k : Nat) (t : TypeId) (cs : List Value) (fuel : Nat) (x : DataW H × List MemPlace), t < P.types.size → litB P k t = true → DataW.trod enc P w base spare held fuel t cs = some x → cs = Ztg k x.1 := by
 intro k
 induction k with
 | zero => intro t cs fuel x _ h; cases h
 | succ k ih =>
  intro t cs fuel x htl hs hr
  unfold litB at hs
  split at hs
  ·
   rename_i hu
   obtain ⟨b, rfl, rfl⟩ := DataW.trod_bool hu hr
   rfl
  ·
   rename_i q hu
   obtain ⟨n, rfl, rfl, _⟩ := DataW.trod_int hu hr
   rfl
  ·
   rename_i hu
   obtain ⟨s, rfl, rfl, _⟩ := DataW.trod_string hu hr
   show [Value.string s] = [Value.string ⟨s.data.toList.toArray⟩]
   simp
  ·
   rename_i n e hu
   simp only [Bool.and_eq_true, decide_eq_true_eq] at hs
   obtain ⟨xs, m, _, rfl, hcl, hxl, hel⟩ := DataW.trod_array hu hr
   obtain ⟨_, hcn⟩ := kid_array hl htl hu
   have key : ∀ (j i : Nat), i + j = n → cs.drop (i * P.cellsOf e) = ((xs.drop i).map (·.1)).flatMap (Ztg k) := by
    intro j
    induction j with
    | zero =>
     intro i hi
     have hi' : i = n := by omega
     subst hi'
     rw [← hcn, ← hcl, List.drop_length, ← hxl, List.drop_length]
     rfl
    | succ j ihj =>
     intro i hi
     have hlt : i < xs.length := by omega
     have h1 := hel i (by omega)
     rw [List.getElem?_eq_getElem hlt] at h1
     have h2 := ih e _ m _ hs.1 hs.2 h1
     have h3 := ihj (i + 1) (by omega)
     have e1 : (i + 1) * P.cellsOf e = i * P.cellsOf e + P.cellsOf e := by rw [Nat.succ_mul]
     rw [e1] at h3
     rw [List.drop_eq_getElem_cons hlt, List.map_cons, List.flatMap_cons, ← h3, ← h2]
     exact (Zqf cs _ _).symm
   have := key n 0 (by omega)
   simpa [Ztg] using this
  ·
   rename_i fs hu
   obtain ⟨xs, n, _, rfl, hcl, hxl, hf⟩ := DataW.trod_struct hu hr
   obtain ⟨_, hsum, hoff⟩ := kid_struct hl htl hu
   simp only [List.all_eq_true, Bool.and_eq_true, decide_eq_true_eq] at hs
   have hxl' : xs.length = fs.toList.length := by simpa using hxl
   have key : ∀ (j i : Nat), i + j = fs.toList.length → cs.drop ((fs.toList.take i).map fun f => P.cellsOf f.type).sum = ((xs.drop i).map (·.1)).flatMap (Ztg k) := by
    intro j
    induction j with
    | zero =>
     intro i hi
     have hi' : i = fs.toList.length := by omega
     subst hi'
     rw [List.take_length, ← hsum, ← hcl, List.drop_length, ← hxl', List.drop_length]
     rfl
    | succ j ihj =>
     intro i hi
     have hlt : i < fs.toList.length := by omega
     have hltx : i < xs.length := by omega
     have hfi : fs.toList[i]? = some fs.toList[i] := List.getElem?_eq_getElem hlt
     have h1 := hf i fs.toList[i] (by simp)
     rw [hoff i _ hfi, List.getElem?_eq_getElem hltx] at h1
     have hm := hs _ (List.getElem_mem hlt)
     have h2 := ih _ _ n _ hm.1 hm.2 h1
     have h3 := ihj (i + 1) (by omega)
     have htk : fs.toList.take (i + 1) = fs.toList.take i ++ [fs.toList[i]] := by rw [List.take_add_one, hfi]; rfl
     rw [htk, List.map_append, List.sum_append] at h3
     simp only [List.map_cons, List.map_nil, List.sum_cons, List.sum_nil, Nat.add_zero] at h3
     rw [List.drop_eq_getElem_cons hltx, List.map_cons, List.flatMap_cons, ← h3, ← h2]
     exact (Zqf cs _ _).symm
   have := key fs.toList.length 0 (by omega)
   simpa [Ztg] using this
  ·
   cases hs
theorem laid_one [Glob P] {nm : String} {d : DataW Unit} {W : World} {g : Nat} {t : TypeId} {k : Nat} {cells : List Value} (hl : laidOutB P = true) (hplain : ([(nm, d)].all fun x => x.2.handleName?.isNone) = true)
  (hg : P.globalNamed nm = some g) (ht : (P.globals[g]?).map (·.type) = some t) (htl : t < P.types.size) (hb : litB P k t = true) (hc : Ztg k d = cells) (hgl : ∀ x cs, Glob.tab P x = some cs → x = g ∧ cs = cells) (hsz : 0 < cells.length)
  (h : laidMetH P [(nm, d)] W) : Gr P (fun b => b < W.heap.size) W := by
 rw [MakeChecks.laidMetH_plain _ _ _ hplain] at h
 obtain ⟨ps, ⟨g0, t0, cs, fuel, p, q, hg0, ht0, hv, hd, _, _⟩, _, _⟩ := h
 obtain rfl := Option.some.inj (hg.symm.trans hg0)
 obtain rfl := Option.some.inj (ht.symm.trans ht0)
 have hcs := lits hl k t _ _ _ htl hb hd
 rw [show Ztg k (d, p).1 = cells from hc] at hcs
 intro x cs' hx
 obtain ⟨rfl, rfl⟩ := hgl x cs' hx
 have hcell := fun j => World.var?_cell hg0 hv j
 have hj : ∀ (j : Nat) v, cs'[j]? = some v → W.cell? ⟨x, j, none⟩ = some v := by
  intro j v hv'
  rw [hcell j]
  obtain ⟨l⟩ := cs
  simp only at hcs
  subst hcs
  simp [hv']
 refine ⟨?_, hj⟩
 have h0 : cs'[0]? = some (cs'[0]'hsz) := List.getElem?_eq_getElem hsz
 have := Zvr (hj 0 _ h0)
 exact this
end Go.DL
namespace Go.Proofs.YtmkblfajmnhccaaGreatDoor
open Go.DL Go.Str Go.Rec Go.Zon
def Lun : Con where
 pure := fun k => [170, 154, 138, 48, 47, 20, 103, 87, 49, 156, 141, 135, 129, 107, 130, 169, 124, 142, 168, 108, 148, 136, 97, 131, 126, 152, 151, 128, 132, 127, 147, 133, 88, 79, 125, 86, 85, 139, 104, 70, 21, 89, 96, 98, 90, 99, 93, 42, 46, 17, 95, 94, 55, 56, 57, 59, 60, 61, 62, 58, 25, 66, 50, 51, 52, 153, 134, 91, 53, 92, 54, 22, 11, 69, 71, 123, 102, 68, 33, 45, 67, 32, 34, 106, 105, 72, 73, 35, 78, 77, 150, 119, 118, 149, 114, 13, 15, 38, 39, 80, 81, 24, 26, 43, 40, 16, 12, 82, 83, 44, 84, 41, 14, 100, 31, 30, 10, 3].contains k
 pf := fun k xs => match k, xs with
  | 170, [x0, x1] => .i (lastIx (str1 x0) (int1 x1))
  | 154, [x0, x1] => .i (lastIx (str1 x0) (int1 x1))
  | 138, [x0] => .b (labelOk (str1 x0))
  | 48, [x0] => .b (labelOk (str1 x0))
  | 47, [x0] => .list false ((splitF (str1 x0)).map sR)
  | 20, [x0] => .b (nameOk (str1 x0))
  | 103, [x0] => .b (nameOk (str1 x0))
  | 87, [x0] => .b (nameOk (str1 x0))
  | 49, [x0] => .list false ((partsOf (str1 x0)).map sR)
  | 156, [x0, x1] => .i (Go.Lib.compareBytes (str1 x0) (str1 x1))
  | 141, [x0, x1] => .i (Go.Lib.compareBytes (str1 x0) (str1 x1))
  | 135, [x0, x1] => .i (nmOrd (str1 x0) (str1 x1))
  | 129, [x0, x1] => .tuple [.i (if nameOk (str1 x0) && nameOk (str1 x1) then nmCmp (str1 x0) (str1 x1) else 0), .i (if nameOk (str1 x0) && nameOk (str1 x1) then 0 else 11)]
  | 107, [x0, x1] => .tuple [.i (if nameOk (str1 x0) && nameOk (str1 x1) then nmCmp (str1 x0) (str1 x1) else 0), .i (if nameOk (str1 x0) && nameOk (str1 x1) then 0 else 11)]
  | 130, [x0, x1, x2] => .b (inR (int1 x0) (int1 x1) (int1 x2))
  | 169, [x0, x1, x2] => .b (inR (int1 x0) (int1 x1) (int1 x2))
  | 124, [x0, x1, x2] => .b (inR (int1 x0) (int1 x1) (int1 x2))
  | 142, [x0] => .b ((int1 x0) != (int1 x0))
  | 168, [x0] => .b ((str1 x0) != (str1 x0))
  | 108, [x0, x1] => .i (cmpI (int1 x0) (int1 x1))
  | 148, [x0, x1] => .i (cmpS (str1 x0) (str1 x1))
  | 136, [x0, x1] => .b (hasPre (str1 x0) (str1 x1))
  | 97, [x0, x1] => .b (hasPre (str1 x0) (str1 x1))
  | 131, [x0] => .b (wildB (str1 x0))
  | 126, [x0] => .b (wildB (str1 x0))
  | 152, [x0] => .b (freeB (str1 x0))
  | 151, [x0] => .b (freeB (str1 x0))
  | 128, [x0, x1] => .b (less (dat1 x0) (dat1 x1))
  | 132, [x0, x1] => .b (datOk (rule1 x0) (dat1 x1))
  | 127, [x0, x1] => .b (rDatOk (int1 x0) (dat1 x1))
  | 147, [x0] => .i (orFrom (ints1 x0) 0)
  | 133, [x0, x1] => .i (datC (dat1 x0) (dat1 x1))
  | 88, [x0] => .b (setOk (set1 x0))
  | 79, [x0] => .b (setOk (set1 x0))
  | 125, [x0] => .b (singleB (int1 x0))
  | 86, [x0, x1] => .i (rOrd (set1 x0) (set1 x1))
  | 85, [x0, x1] => .b (sameB (set1 x0) (set1 x1))
  | 139, [x0, x1] => .b (hasSuf (str1 x0) (str1 x1))
  | 104, [x0, x1] => .b (hasSuf (str1 x0) (str1 x1))
  | 70, [x0, x1] => .tuple [.b (underV (str1 x0) (str1 x1)), .i (if nameOk (str1 x0) && nameOk (str1 x1) then 0 else 11)]
  | 21, [x0, x1] => .b (inB (str1 x0) (str1 x1))
  | 89, [x0] => .b (wild1 (str1 x0))
  | 96, [x0, x1, x2, x3] => .i (qC ⟨(str1 x0), (int1 x1)⟩ ⟨(str1 x2), (int1 x3)⟩)
  | 98, [x0, x1] => .b (fits (int1 x0) (bool1 x1))
  | 90, [x0, x1] => .b (fits (int1 x0) (bool1 x1))
  | 99, [x0, x1] => .b (sigsOk (sigs1 x0) (str1 x1))
  | 93, [x0, x1] => .b (sigsOk (sigs1 x0) (str1 x1))
  | 42, [x0, x1] => .b (sameSgd (sgd1 x0) (sgd1 x1))
  | 46, [x0, x1] => .b (sameList (sgds1 x0) (sgds1 x1))
  | 17, [x0, x1] => .b (sameZ (zon1 x0) (zon1 x1))
  | 95, [x0, x1] => .i (qC (sgd1 x0).q (qst1 x1))
  | 94, [x0, x1, x2] => .tuple [.i (findIx (sgds1 x0) (qst1 x1)), .b (findOk (sgds1 x0) (qst1 x1))]
  | 55, [x0, x1] => .tuple [.i (findIx (zon1 x0).sets (qst1 x1)), .b (findOk (zon1 x0).sets (qst1 x1))]
  | 56, [x0] => .b (ordered (zon1 x0))
  | 57, [x0] => .b (apexHolds (zon1 x0))
  | 59, [x0] => .b (aliasB (lay1 x0))
  | 60, [x0] => .b (cutB (lay1 x0))
  | 61, [x0] => .b (glueB (lay1 x0))
  | 62, [x0] => .b (formB (lay1 x0))
  | 58, [x0] => .agg (layOf (zon1 x0)).d
  | 25, [x0] => .b (zoneOk (zon1 x0))
  | 66, [x0, x1] => .i (atF (zon1 x0).sets (qst1 x1))
  | 50, [x0] => .b (oneB (zon1 x0))
  | 51, [x0] => .b (twoB (zon1 x0))
  | 52, [x0] => .b (threeB (zon1 x0))
  | 153, [x0] => .list false ((cutsF (zon1 x0)).map sR)
  | 134, [x0] => .list false ((highF (zon1 x0)).map sR)
  | 91, [x0] => .list false ((behR (zon1 x0)).map sR)
  | 53, [x0] => .b (fourB (zon1 x0))
  | 92, [x0] => .list false ((ownF (zon1 x0)).map bR)
  | 54, [x0] => .b (fiveB (zon1 x0))
  | 22, [x0] => .b (refOk (zon1 x0))
  | 11, [x0] => .b (fewZ (zon1 x0))
  | 69, [x0] => .b (notPl (sgd1 x0))
  | 71, [x0, x1] => .b (isNm (chgp1 x1).set.name (sgd1 x0))
  | 123, [x0, x1] => .b (isNm (setp1 x1).name (sgd1 x0))
  | 102, [x0, x1] => .i (firstAt (semB (x1)) (sgds1 x0) 0)
  | 68, [x0, x1] => .b (decide (0 ≤ firstAt (semB (x1)) (sgds1 x0) 0))
  | 33, [x0] => .b (plainB (zon1 x0))
  | 45, [x0] => .b (needOk (chg1 x0))
  | 67, [x0] => .b (chgOk (chg1 x0))
  | 32, [x0] => .b (updOk (upd1 x0))
  | 34, [x0, x1] => .b (underV (str1 x0) (str1 x1))
  | 106, [x0, x1, x2] => .i (qC (sgd1 x0).q ⟨(str1 x1), (intp1 x2)⟩)
  | 105, [x0, x1, x2] => .tuple [.i (findIx (sgds1 x0) ⟨(str1 x1), (clint1 x2)⟩), .b (findOk (sgds1 x0) ⟨(str1 x1), (clint1 x2)⟩)]
  | 72, [x0, x1, x2] => .tuple [.i (findIx (zon1 x0).sets ⟨(str1 x1), (int1 x2)⟩), .b (findOk (zon1 x0).sets ⟨(str1 x1), (int1 x2)⟩)]
  | 73, [x0, x1] => .b (decide ((dats1 x0) = (dats1 x1)))
  | 35, [x0, x1] => .b (holdP (zon1 x0) (chg1 x1))
  | 78, [x0, x1] => .b (decide ((sgd1 x0).set = (sgd1 x1).set))
  | 77, [x0, x1, x2] => .b (eqSets (sgds1 x0) (sgds1 x1))
  | 150, [x0, x1] => .i (firstAt (fun y => decide ((dat1 x1) = y)) (dats1 x0) 0)
  | 119, [x0, x1] => .b (hasD (dats1 x0) (dat1 x1))
  | 118, [x0, x1] => .b (hasD (setp1 x1).data (dat1 x0))
  | 149, [x0, x1] => .i (firstAt (hasD (clset1 x1).data) (dats1 x0) 0)
  | 114, [x0, x1] => .i (datC (dat1 x0) (dat1 x1))
  | 13, [x0, x1] => .tuple [.agg (updR (zon1 x0) (upd1 x1)).1.d, .i (updR (zon1 x0) (upd1 x1)).2]
  | 15, [x0, x1] => .tuple [.b (holdsF (zon1 x0) (chg1 x1)).1, .i (holdsF (zon1 x0) (chg1 x1)).2]
  | 38, [x0] => .b (needOk (chg1 x0))
  | 39, [x0] => .b (chgOk (chg1 x0))
  | 80, [x0, x1] => .b (namedB (zon1 x0) (str1 x1))
  | 81, [x0, x1] => .b (decide ((dats1 x0) = (dats1 x1)))
  | 24, [x0] => .b (plainB (zon1 x0))
  | 26, [x0] => .i (nextN (int1 x0))
  | 43, [x0] => .i (startN (zon1 x0))
  | 40, [x0, x1] => .b (holdB (zon1 x0) (chg1 x1))
  | 16, [x0, x1] => .tuple [.b (holdsF (zon1 x0) (chg1 x1)).1, .i (holdsF (zon1 x0) (chg1 x1)).2]
  | 12, [x0] => .b (fewU (upd1 x0))
  | 82, [x0, x1] => .list false ((mrgD (dats1 x0) (dats1 x1)).map Dat.d)
  | 83, [x0, x1] => .list false ((leftD (dats1 x0) (dats1 x1)).map Dat.d)
  | 44, [x0, x1] => .agg (withF (zon1 x0) (sgd1 x1)).d
  | 84, [x0, x1] => .agg (woutF (zon1 x0) (int1 x1).toNat).d
  | 41, [x0, x1] => .agg (madeR (zon1 x0) (chg1 x1)).d
  | 14, [x0, x1] => .tuple [.agg (updR (zon1 x0) (upd1 x1)).1.d, .i (updR (zon1 x0) (upd1 x1)).2]
  | 100, [x0] => .list false ((dats1 x0).map Dat.d)
  | 31, [x0, x1, x2, x3, x4] => .agg (RSet.d (setU (str1 x0) (int1 x1) (str1 x2) (int1 x3) (int1 x4)))
  | 30, [x0, x1] => .agg (exZ (int1 x0) (Zf4 x1)).d
  | 10, [] => .b true
  | 3, [x0, x1, x2] => .b true
  | _, _ => .junk
@[go_sem] theorem lunp170 : Lun.pure 170 = true := rfl
@[go_sem] theorem lunf170 {x0 x1 : D} : Lun.pf 170 [x0, x1] = .i (lastIx (str1 x0) (int1 x1)) := rfl
@[go_sem] theorem lunp154 : Lun.pure 154 = true := rfl
@[go_sem] theorem lunf154 {x0 x1 : D} : Lun.pf 154 [x0, x1] = .i (lastIx (str1 x0) (int1 x1)) := rfl
@[go_sem] theorem lunp138 : Lun.pure 138 = true := rfl
@[go_sem] theorem lunf138 {x0 : D} : Lun.pf 138 [x0] = .b (labelOk (str1 x0)) := rfl
@[go_sem] theorem lunp48 : Lun.pure 48 = true := rfl
@[go_sem] theorem lunf48 {x0 : D} : Lun.pf 48 [x0] = .b (labelOk (str1 x0)) := rfl
@[go_sem] theorem lunp47 : Lun.pure 47 = true := rfl
@[go_sem] theorem lunf47 {x0 : D} : Lun.pf 47 [x0] = .list false ((splitF (str1 x0)).map sR) := rfl
@[go_sem] theorem lunp20 : Lun.pure 20 = true := rfl
@[go_sem] theorem lunf20 {x0 : D} : Lun.pf 20 [x0] = .b (nameOk (str1 x0)) := rfl
@[go_sem] theorem lunp103 : Lun.pure 103 = true := rfl
@[go_sem] theorem lunf103 {x0 : D} : Lun.pf 103 [x0] = .b (nameOk (str1 x0)) := rfl
@[go_sem] theorem lunp87 : Lun.pure 87 = true := rfl
@[go_sem] theorem lunf87 {x0 : D} : Lun.pf 87 [x0] = .b (nameOk (str1 x0)) := rfl
@[go_sem] theorem lunp49 : Lun.pure 49 = true := rfl
@[go_sem] theorem lunf49 {x0 : D} : Lun.pf 49 [x0] = .list false ((partsOf (str1 x0)).map sR) := rfl
@[go_sem] theorem lunp156 : Lun.pure 156 = true := rfl
@[go_sem] theorem lunf156 {x0 x1 : D} : Lun.pf 156 [x0, x1] = .i (Go.Lib.compareBytes (str1 x0) (str1 x1)) := rfl
@[go_sem] theorem lunp141 : Lun.pure 141 = true := rfl
@[go_sem] theorem lunf141 {x0 x1 : D} : Lun.pf 141 [x0, x1] = .i (Go.Lib.compareBytes (str1 x0) (str1 x1)) := rfl
@[go_sem] theorem lunp135 : Lun.pure 135 = true := rfl
@[go_sem] theorem lunf135 {x0 x1 : D} : Lun.pf 135 [x0, x1] = .i (nmOrd (str1 x0) (str1 x1)) := rfl
@[go_sem] theorem lunp129 : Lun.pure 129 = true := rfl
@[go_sem] theorem lunf129 {x0 x1 : D} : Lun.pf 129 [x0, x1] = .tuple [.i (if nameOk (str1 x0) && nameOk (str1 x1) then nmCmp (str1 x0) (str1 x1) else 0), .i (if nameOk (str1 x0) && nameOk (str1 x1) then 0 else 11)] := rfl
@[go_sem] theorem lunp107 : Lun.pure 107 = true := rfl
@[go_sem] theorem lunf107 {x0 x1 : D} : Lun.pf 107 [x0, x1] = .tuple [.i (if nameOk (str1 x0) && nameOk (str1 x1) then nmCmp (str1 x0) (str1 x1) else 0), .i (if nameOk (str1 x0) && nameOk (str1 x1) then 0 else 11)] := rfl
@[go_sem] theorem lunp130 : Lun.pure 130 = true := rfl
@[go_sem] theorem lunf130 {x0 x1 x2 : D} : Lun.pf 130 [x0, x1, x2] = .b (inR (int1 x0) (int1 x1) (int1 x2)) := rfl
@[go_sem] theorem lunp169 : Lun.pure 169 = true := rfl
@[go_sem] theorem lunf169 {x0 x1 x2 : D} : Lun.pf 169 [x0, x1, x2] = .b (inR (int1 x0) (int1 x1) (int1 x2)) := rfl
@[go_sem] theorem lunp124 : Lun.pure 124 = true := rfl
@[go_sem] theorem lunf124 {x0 x1 x2 : D} : Lun.pf 124 [x0, x1, x2] = .b (inR (int1 x0) (int1 x1) (int1 x2)) := rfl
@[go_sem] theorem lunp142 : Lun.pure 142 = true := rfl
@[go_sem] theorem lunf142 {x0 : D} : Lun.pf 142 [x0] = .b ((int1 x0) != (int1 x0)) := rfl
@[go_sem] theorem lunp168 : Lun.pure 168 = true := rfl
@[go_sem] theorem lunf168 {x0 : D} : Lun.pf 168 [x0] = .b ((str1 x0) != (str1 x0)) := rfl
@[go_sem] theorem lunp108 : Lun.pure 108 = true := rfl
@[go_sem] theorem lunf108 {x0 x1 : D} : Lun.pf 108 [x0, x1] = .i (cmpI (int1 x0) (int1 x1)) := rfl
@[go_sem] theorem lunp148 : Lun.pure 148 = true := rfl
@[go_sem] theorem lunf148 {x0 x1 : D} : Lun.pf 148 [x0, x1] = .i (cmpS (str1 x0) (str1 x1)) := rfl
@[go_sem] theorem lunp136 : Lun.pure 136 = true := rfl
@[go_sem] theorem lunf136 {x0 x1 : D} : Lun.pf 136 [x0, x1] = .b (hasPre (str1 x0) (str1 x1)) := rfl
@[go_sem] theorem lunp97 : Lun.pure 97 = true := rfl
@[go_sem] theorem lunf97 {x0 x1 : D} : Lun.pf 97 [x0, x1] = .b (hasPre (str1 x0) (str1 x1)) := rfl
@[go_sem] theorem lunp131 : Lun.pure 131 = true := rfl
@[go_sem] theorem lunf131 {x0 : D} : Lun.pf 131 [x0] = .b (wildB (str1 x0)) := rfl
@[go_sem] theorem lunp126 : Lun.pure 126 = true := rfl
@[go_sem] theorem lunf126 {x0 : D} : Lun.pf 126 [x0] = .b (wildB (str1 x0)) := rfl
@[go_sem] theorem lunp152 : Lun.pure 152 = true := rfl
@[go_sem] theorem lunf152 {x0 : D} : Lun.pf 152 [x0] = .b (freeB (str1 x0)) := rfl
@[go_sem] theorem lunp151 : Lun.pure 151 = true := rfl
@[go_sem] theorem lunf151 {x0 : D} : Lun.pf 151 [x0] = .b (freeB (str1 x0)) := rfl
@[go_sem] theorem lunp128 : Lun.pure 128 = true := rfl
@[go_sem] theorem lunf128 {x0 x1 : D} : Lun.pf 128 [x0, x1] = .b (less (dat1 x0) (dat1 x1)) := rfl
@[go_sem] theorem lunp132 : Lun.pure 132 = true := rfl
@[go_sem] theorem lunf132 {x0 x1 : D} : Lun.pf 132 [x0, x1] = .b (datOk (rule1 x0) (dat1 x1)) := rfl
@[go_sem] theorem lunp127 : Lun.pure 127 = true := rfl
@[go_sem] theorem lunf127 {x0 x1 : D} : Lun.pf 127 [x0, x1] = .b (rDatOk (int1 x0) (dat1 x1)) := rfl
@[go_sem] theorem lunp147 : Lun.pure 147 = true := rfl
@[go_sem] theorem lunf147 {x0 : D} : Lun.pf 147 [x0] = .i (orFrom (ints1 x0) 0) := rfl
@[go_sem] theorem lunp133 : Lun.pure 133 = true := rfl
@[go_sem] theorem lunf133 {x0 x1 : D} : Lun.pf 133 [x0, x1] = .i (datC (dat1 x0) (dat1 x1)) := rfl
@[go_sem] theorem lunp88 : Lun.pure 88 = true := rfl
@[go_sem] theorem lunf88 {x0 : D} : Lun.pf 88 [x0] = .b (setOk (set1 x0)) := rfl
@[go_sem] theorem lunp79 : Lun.pure 79 = true := rfl
@[go_sem] theorem lunf79 {x0 : D} : Lun.pf 79 [x0] = .b (setOk (set1 x0)) := rfl
@[go_sem] theorem lunp125 : Lun.pure 125 = true := rfl
@[go_sem] theorem lunf125 {x0 : D} : Lun.pf 125 [x0] = .b (singleB (int1 x0)) := rfl
@[go_sem] theorem lunp86 : Lun.pure 86 = true := rfl
@[go_sem] theorem lunf86 {x0 x1 : D} : Lun.pf 86 [x0, x1] = .i (rOrd (set1 x0) (set1 x1)) := rfl
@[go_sem] theorem lunp85 : Lun.pure 85 = true := rfl
@[go_sem] theorem lunf85 {x0 x1 : D} : Lun.pf 85 [x0, x1] = .b (sameB (set1 x0) (set1 x1)) := rfl
@[go_sem] theorem lunp139 : Lun.pure 139 = true := rfl
@[go_sem] theorem lunf139 {x0 x1 : D} : Lun.pf 139 [x0, x1] = .b (hasSuf (str1 x0) (str1 x1)) := rfl
@[go_sem] theorem lunp104 : Lun.pure 104 = true := rfl
@[go_sem] theorem lunf104 {x0 x1 : D} : Lun.pf 104 [x0, x1] = .b (hasSuf (str1 x0) (str1 x1)) := rfl
@[go_sem] theorem lunp70 : Lun.pure 70 = true := rfl
@[go_sem] theorem lunf70 {x0 x1 : D} : Lun.pf 70 [x0, x1] = .tuple [.b (underV (str1 x0) (str1 x1)), .i (if nameOk (str1 x0) && nameOk (str1 x1) then 0 else 11)] := rfl
@[go_sem] theorem lunp21 : Lun.pure 21 = true := rfl
@[go_sem] theorem lunf21 {x0 x1 : D} : Lun.pf 21 [x0, x1] = .b (inB (str1 x0) (str1 x1)) := rfl
@[go_sem] theorem lunp89 : Lun.pure 89 = true := rfl
@[go_sem] theorem lunf89 {x0 : D} : Lun.pf 89 [x0] = .b (wild1 (str1 x0)) := rfl
@[go_sem] theorem lunp96 : Lun.pure 96 = true := rfl
@[go_sem] theorem lunf96 {x0 x1 x2 x3 : D} : Lun.pf 96 [x0, x1, x2, x3] = .i (qC ⟨(str1 x0), (int1 x1)⟩ ⟨(str1 x2), (int1 x3)⟩) := rfl
@[go_sem] theorem lunp98 : Lun.pure 98 = true := rfl
@[go_sem] theorem lunf98 {x0 x1 : D} : Lun.pf 98 [x0, x1] = .b (fits (int1 x0) (bool1 x1)) := rfl
@[go_sem] theorem lunp90 : Lun.pure 90 = true := rfl
@[go_sem] theorem lunf90 {x0 x1 : D} : Lun.pf 90 [x0, x1] = .b (fits (int1 x0) (bool1 x1)) := rfl
@[go_sem] theorem lunp99 : Lun.pure 99 = true := rfl
@[go_sem] theorem lunf99 {x0 x1 : D} : Lun.pf 99 [x0, x1] = .b (sigsOk (sigs1 x0) (str1 x1)) := rfl
@[go_sem] theorem lunp93 : Lun.pure 93 = true := rfl
@[go_sem] theorem lunf93 {x0 x1 : D} : Lun.pf 93 [x0, x1] = .b (sigsOk (sigs1 x0) (str1 x1)) := rfl
@[go_sem] theorem lunp42 : Lun.pure 42 = true := rfl
@[go_sem] theorem lunf42 {x0 x1 : D} : Lun.pf 42 [x0, x1] = .b (sameSgd (sgd1 x0) (sgd1 x1)) := rfl
@[go_sem] theorem lunp46 : Lun.pure 46 = true := rfl
@[go_sem] theorem lunf46 {x0 x1 : D} : Lun.pf 46 [x0, x1] = .b (sameList (sgds1 x0) (sgds1 x1)) := rfl
@[go_sem] theorem lunp17 : Lun.pure 17 = true := rfl
@[go_sem] theorem lunf17 {x0 x1 : D} : Lun.pf 17 [x0, x1] = .b (sameZ (zon1 x0) (zon1 x1)) := rfl
@[go_sem] theorem lunp95 : Lun.pure 95 = true := rfl
@[go_sem] theorem lunf95 {x0 x1 : D} : Lun.pf 95 [x0, x1] = .i (qC (sgd1 x0).q (qst1 x1)) := rfl
@[go_sem] theorem lunp94 : Lun.pure 94 = true := rfl
@[go_sem] theorem lunf94 {x0 x1 x2 : D} : Lun.pf 94 [x0, x1, x2] = .tuple [.i (findIx (sgds1 x0) (qst1 x1)), .b (findOk (sgds1 x0) (qst1 x1))] := rfl
@[go_sem] theorem lunp55 : Lun.pure 55 = true := rfl
@[go_sem] theorem lunf55 {x0 x1 : D} : Lun.pf 55 [x0, x1] = .tuple [.i (findIx (zon1 x0).sets (qst1 x1)), .b (findOk (zon1 x0).sets (qst1 x1))] := rfl
@[go_sem] theorem lunp56 : Lun.pure 56 = true := rfl
@[go_sem] theorem lunf56 {x0 : D} : Lun.pf 56 [x0] = .b (ordered (zon1 x0)) := rfl
@[go_sem] theorem lunp57 : Lun.pure 57 = true := rfl
@[go_sem] theorem lunf57 {x0 : D} : Lun.pf 57 [x0] = .b (apexHolds (zon1 x0)) := rfl
@[go_sem] theorem lunp59 : Lun.pure 59 = true := rfl
@[go_sem] theorem lunf59 {x0 : D} : Lun.pf 59 [x0] = .b (aliasB (lay1 x0)) := rfl
@[go_sem] theorem lunp60 : Lun.pure 60 = true := rfl
@[go_sem] theorem lunf60 {x0 : D} : Lun.pf 60 [x0] = .b (cutB (lay1 x0)) := rfl
@[go_sem] theorem lunp61 : Lun.pure 61 = true := rfl
@[go_sem] theorem lunf61 {x0 : D} : Lun.pf 61 [x0] = .b (glueB (lay1 x0)) := rfl
@[go_sem] theorem lunp62 : Lun.pure 62 = true := rfl
@[go_sem] theorem lunf62 {x0 : D} : Lun.pf 62 [x0] = .b (formB (lay1 x0)) := rfl
@[go_sem] theorem lunp58 : Lun.pure 58 = true := rfl
@[go_sem] theorem lunf58 {x0 : D} : Lun.pf 58 [x0] = .agg (layOf (zon1 x0)).d := rfl
@[go_sem] theorem lunp25 : Lun.pure 25 = true := rfl
@[go_sem] theorem lunf25 {x0 : D} : Lun.pf 25 [x0] = .b (zoneOk (zon1 x0)) := rfl
@[go_sem] theorem lunp66 : Lun.pure 66 = true := rfl
@[go_sem] theorem lunf66 {x0 x1 : D} : Lun.pf 66 [x0, x1] = .i (atF (zon1 x0).sets (qst1 x1)) := rfl
@[go_sem] theorem lunp50 : Lun.pure 50 = true := rfl
@[go_sem] theorem lunf50 {x0 : D} : Lun.pf 50 [x0] = .b (oneB (zon1 x0)) := rfl
@[go_sem] theorem lunp51 : Lun.pure 51 = true := rfl
@[go_sem] theorem lunf51 {x0 : D} : Lun.pf 51 [x0] = .b (twoB (zon1 x0)) := rfl
@[go_sem] theorem lunp52 : Lun.pure 52 = true := rfl
@[go_sem] theorem lunf52 {x0 : D} : Lun.pf 52 [x0] = .b (threeB (zon1 x0)) := rfl
@[go_sem] theorem lunp153 : Lun.pure 153 = true := rfl
@[go_sem] theorem lunf153 {x0 : D} : Lun.pf 153 [x0] = .list false ((cutsF (zon1 x0)).map sR) := rfl
@[go_sem] theorem lunp134 : Lun.pure 134 = true := rfl
@[go_sem] theorem lunf134 {x0 : D} : Lun.pf 134 [x0] = .list false ((highF (zon1 x0)).map sR) := rfl
@[go_sem] theorem lunp91 : Lun.pure 91 = true := rfl
@[go_sem] theorem lunf91 {x0 : D} : Lun.pf 91 [x0] = .list false ((behR (zon1 x0)).map sR) := rfl
@[go_sem] theorem lunp53 : Lun.pure 53 = true := rfl
@[go_sem] theorem lunf53 {x0 : D} : Lun.pf 53 [x0] = .b (fourB (zon1 x0)) := rfl
@[go_sem] theorem lunp92 : Lun.pure 92 = true := rfl
@[go_sem] theorem lunf92 {x0 : D} : Lun.pf 92 [x0] = .list false ((ownF (zon1 x0)).map bR) := rfl
@[go_sem] theorem lunp54 : Lun.pure 54 = true := rfl
@[go_sem] theorem lunf54 {x0 : D} : Lun.pf 54 [x0] = .b (fiveB (zon1 x0)) := rfl
@[go_sem] theorem lunp22 : Lun.pure 22 = true := rfl
@[go_sem] theorem lunf22 {x0 : D} : Lun.pf 22 [x0] = .b (refOk (zon1 x0)) := rfl
@[go_sem] theorem lunp11 : Lun.pure 11 = true := rfl
@[go_sem] theorem lunf11 {x0 : D} : Lun.pf 11 [x0] = .b (fewZ (zon1 x0)) := rfl
@[go_sem] theorem lunp69 : Lun.pure 69 = true := rfl
@[go_sem] theorem lunf69 {x0 : D} : Lun.pf 69 [x0] = .b (notPl (sgd1 x0)) := rfl
@[go_sem] theorem lunp71 : Lun.pure 71 = true := rfl
@[go_sem] theorem lunf71 {x0 x1 : D} : Lun.pf 71 [x0, x1] = .b (isNm (chgp1 x1).set.name (sgd1 x0)) := rfl
@[go_sem] theorem lunp123 : Lun.pure 123 = true := rfl
@[go_sem] theorem lunf123 {x0 x1 : D} : Lun.pf 123 [x0, x1] = .b (isNm (setp1 x1).name (sgd1 x0)) := rfl
@[go_sem] theorem lunp102 : Lun.pure 102 = true := rfl
@[go_sem] theorem lunf102 {x0 x1 : D} : Lun.pf 102 [x0, x1] = .i (firstAt (semB (x1)) (sgds1 x0) 0) := rfl
@[go_sem] theorem lunp68 : Lun.pure 68 = true := rfl
@[go_sem] theorem lunf68 {x0 x1 : D} : Lun.pf 68 [x0, x1] = .b (decide (0 ≤ firstAt (semB (x1)) (sgds1 x0) 0)) := rfl
@[go_sem] theorem lunp33 : Lun.pure 33 = true := rfl
@[go_sem] theorem lunf33 {x0 : D} : Lun.pf 33 [x0] = .b (plainB (zon1 x0)) := rfl
@[go_sem] theorem lunp45 : Lun.pure 45 = true := rfl
@[go_sem] theorem lunf45 {x0 : D} : Lun.pf 45 [x0] = .b (needOk (chg1 x0)) := rfl
@[go_sem] theorem lunp67 : Lun.pure 67 = true := rfl
@[go_sem] theorem lunf67 {x0 : D} : Lun.pf 67 [x0] = .b (chgOk (chg1 x0)) := rfl
@[go_sem] theorem lunp32 : Lun.pure 32 = true := rfl
@[go_sem] theorem lunf32 {x0 : D} : Lun.pf 32 [x0] = .b (updOk (upd1 x0)) := rfl
@[go_sem] theorem lunp34 : Lun.pure 34 = true := rfl
@[go_sem] theorem lunf34 {x0 x1 : D} : Lun.pf 34 [x0, x1] = .b (underV (str1 x0) (str1 x1)) := rfl
@[go_sem] theorem lunp106 : Lun.pure 106 = true := rfl
@[go_sem] theorem lunf106 {x0 x1 x2 : D} : Lun.pf 106 [x0, x1, x2] = .i (qC (sgd1 x0).q ⟨(str1 x1), (intp1 x2)⟩) := rfl
@[go_sem] theorem lunp105 : Lun.pure 105 = true := rfl
@[go_sem] theorem lunf105 {x0 x1 x2 : D} : Lun.pf 105 [x0, x1, x2] = .tuple [.i (findIx (sgds1 x0) ⟨(str1 x1), (clint1 x2)⟩), .b (findOk (sgds1 x0) ⟨(str1 x1), (clint1 x2)⟩)] := rfl
@[go_sem] theorem lunp72 : Lun.pure 72 = true := rfl
@[go_sem] theorem lunf72 {x0 x1 x2 : D} : Lun.pf 72 [x0, x1, x2] = .tuple [.i (findIx (zon1 x0).sets ⟨(str1 x1), (int1 x2)⟩), .b (findOk (zon1 x0).sets ⟨(str1 x1), (int1 x2)⟩)] := rfl
@[go_sem] theorem lunp73 : Lun.pure 73 = true := rfl
@[go_sem] theorem lunf73 {x0 x1 : D} : Lun.pf 73 [x0, x1] = .b (decide ((dats1 x0) = (dats1 x1))) := rfl
@[go_sem] theorem lunp35 : Lun.pure 35 = true := rfl
@[go_sem] theorem lunf35 {x0 x1 : D} : Lun.pf 35 [x0, x1] = .b (holdP (zon1 x0) (chg1 x1)) := rfl
@[go_sem] theorem lunp78 : Lun.pure 78 = true := rfl
@[go_sem] theorem lunf78 {x0 x1 : D} : Lun.pf 78 [x0, x1] = .b (decide ((sgd1 x0).set = (sgd1 x1).set)) := rfl
@[go_sem] theorem lunp77 : Lun.pure 77 = true := rfl
@[go_sem] theorem lunf77 {x0 x1 x2 : D} : Lun.pf 77 [x0, x1, x2] = .b (eqSets (sgds1 x0) (sgds1 x1)) := rfl
@[go_sem] theorem lunp150 : Lun.pure 150 = true := rfl
@[go_sem] theorem lunf150 {x0 x1 : D} : Lun.pf 150 [x0, x1] = .i (firstAt (fun y => decide ((dat1 x1) = y)) (dats1 x0) 0) := rfl
@[go_sem] theorem lunp119 : Lun.pure 119 = true := rfl
@[go_sem] theorem lunf119 {x0 x1 : D} : Lun.pf 119 [x0, x1] = .b (hasD (dats1 x0) (dat1 x1)) := rfl
@[go_sem] theorem lunp118 : Lun.pure 118 = true := rfl
@[go_sem] theorem lunf118 {x0 x1 : D} : Lun.pf 118 [x0, x1] = .b (hasD (setp1 x1).data (dat1 x0)) := rfl
@[go_sem] theorem lunp149 : Lun.pure 149 = true := rfl
@[go_sem] theorem lunf149 {x0 x1 : D} : Lun.pf 149 [x0, x1] = .i (firstAt (hasD (clset1 x1).data) (dats1 x0) 0) := rfl
@[go_sem] theorem lunp114 : Lun.pure 114 = true := rfl
@[go_sem] theorem lunf114 {x0 x1 : D} : Lun.pf 114 [x0, x1] = .i (datC (dat1 x0) (dat1 x1)) := rfl
@[go_sem] theorem lunp13 : Lun.pure 13 = true := rfl
@[go_sem] theorem lunf13 {x0 x1 : D} : Lun.pf 13 [x0, x1] = .tuple [.agg (updR (zon1 x0) (upd1 x1)).1.d, .i (updR (zon1 x0) (upd1 x1)).2] := rfl
@[go_sem] theorem lunp15 : Lun.pure 15 = true := rfl
@[go_sem] theorem lunf15 {x0 x1 : D} : Lun.pf 15 [x0, x1] = .tuple [.b (holdsF (zon1 x0) (chg1 x1)).1, .i (holdsF (zon1 x0) (chg1 x1)).2] := rfl
@[go_sem] theorem lunp38 : Lun.pure 38 = true := rfl
@[go_sem] theorem lunf38 {x0 : D} : Lun.pf 38 [x0] = .b (needOk (chg1 x0)) := rfl
@[go_sem] theorem lunp39 : Lun.pure 39 = true := rfl
@[go_sem] theorem lunf39 {x0 : D} : Lun.pf 39 [x0] = .b (chgOk (chg1 x0)) := rfl
@[go_sem] theorem lunp80 : Lun.pure 80 = true := rfl
@[go_sem] theorem lunf80 {x0 x1 : D} : Lun.pf 80 [x0, x1] = .b (namedB (zon1 x0) (str1 x1)) := rfl
@[go_sem] theorem lunp81 : Lun.pure 81 = true := rfl
@[go_sem] theorem lunf81 {x0 x1 : D} : Lun.pf 81 [x0, x1] = .b (decide ((dats1 x0) = (dats1 x1))) := rfl
@[go_sem] theorem lunp24 : Lun.pure 24 = true := rfl
@[go_sem] theorem lunf24 {x0 : D} : Lun.pf 24 [x0] = .b (plainB (zon1 x0)) := rfl
@[go_sem] theorem lunp26 : Lun.pure 26 = true := rfl
@[go_sem] theorem lunf26 {x0 : D} : Lun.pf 26 [x0] = .i (nextN (int1 x0)) := rfl
@[go_sem] theorem lunp43 : Lun.pure 43 = true := rfl
@[go_sem] theorem lunf43 {x0 : D} : Lun.pf 43 [x0] = .i (startN (zon1 x0)) := rfl
@[go_sem] theorem lunp40 : Lun.pure 40 = true := rfl
@[go_sem] theorem lunf40 {x0 x1 : D} : Lun.pf 40 [x0, x1] = .b (holdB (zon1 x0) (chg1 x1)) := rfl
@[go_sem] theorem lunp16 : Lun.pure 16 = true := rfl
@[go_sem] theorem lunf16 {x0 x1 : D} : Lun.pf 16 [x0, x1] = .tuple [.b (holdsF (zon1 x0) (chg1 x1)).1, .i (holdsF (zon1 x0) (chg1 x1)).2] := rfl
@[go_sem] theorem lunp12 : Lun.pure 12 = true := rfl
@[go_sem] theorem lunf12 {x0 : D} : Lun.pf 12 [x0] = .b (fewU (upd1 x0)) := rfl
@[go_sem] theorem lunp82 : Lun.pure 82 = true := rfl
@[go_sem] theorem lunf82 {x0 x1 : D} : Lun.pf 82 [x0, x1] = .list false ((mrgD (dats1 x0) (dats1 x1)).map Dat.d) := rfl
@[go_sem] theorem lunp83 : Lun.pure 83 = true := rfl
@[go_sem] theorem lunf83 {x0 x1 : D} : Lun.pf 83 [x0, x1] = .list false ((leftD (dats1 x0) (dats1 x1)).map Dat.d) := rfl
@[go_sem] theorem lunp44 : Lun.pure 44 = true := rfl
@[go_sem] theorem lunf44 {x0 x1 : D} : Lun.pf 44 [x0, x1] = .agg (withF (zon1 x0) (sgd1 x1)).d := rfl
@[go_sem] theorem lunp84 : Lun.pure 84 = true := rfl
@[go_sem] theorem lunf84 {x0 x1 : D} : Lun.pf 84 [x0, x1] = .agg (woutF (zon1 x0) (int1 x1).toNat).d := rfl
@[go_sem] theorem lunp41 : Lun.pure 41 = true := rfl
@[go_sem] theorem lunf41 {x0 x1 : D} : Lun.pf 41 [x0, x1] = .agg (madeR (zon1 x0) (chg1 x1)).d := rfl
@[go_sem] theorem lunp14 : Lun.pure 14 = true := rfl
@[go_sem] theorem lunf14 {x0 x1 : D} : Lun.pf 14 [x0, x1] = .tuple [.agg (updR (zon1 x0) (upd1 x1)).1.d, .i (updR (zon1 x0) (upd1 x1)).2] := rfl
@[go_sem] theorem lunp100 : Lun.pure 100 = true := rfl
@[go_sem] theorem lunf100 {x0 : D} : Lun.pf 100 [x0] = .list false ((dats1 x0).map Dat.d) := rfl
@[go_sem] theorem lunp31 : Lun.pure 31 = true := rfl
@[go_sem] theorem lunf31 {x0 x1 x2 x3 x4 : D} : Lun.pf 31 [x0, x1, x2, x3, x4] = .agg (RSet.d (setU (str1 x0) (int1 x1) (str1 x2) (int1 x3) (int1 x4))) := rfl
@[go_sem] theorem lunp30 : Lun.pure 30 = true := rfl
@[go_sem] theorem lunf30 {x0 x1 : D} : Lun.pf 30 [x0, x1] = .agg (exZ (int1 x0) (Zf4 x1)).d := rfl
@[go_sem] theorem lunp10 : Lun.pure 10 = true := rfl
@[go_sem] theorem lunf10 : Lun.pf 10 [] = .b true := rfl
@[go_sem] theorem lunp3 : Lun.pure 3 = true := rfl
@[go_sem] theorem lunf3 {x0 x1 x2 : D} : Lun.pf 3 [x0, x1, x2] = .b true := rfl
def LunB : Con := { Lun with bs := true }
@[go_sem] theorem lunB_p {k : FuncId} : LunB.pure k = Lun.pure k := rfl
@[go_sem] theorem lunB_f {k : FuncId} {xs : List D} : LunB.pf k xs = Lun.pf k xs := rfl
@[go_sem] theorem lunB_b : LunB.bs = true := rfl
@[go_sem] theorem lun_b : Lun.bs = false := rfl
@[go_sem] theorem lun_c : Lun.cf = false := rfl
@[go_sem] theorem lunB_c : LunB.cf = false := rfl
def LunF : Con := { Lun with cf := true }
@[go_sem] theorem lunF_p {k : FuncId} : LunF.pure k = Lun.pure k := rfl
@[go_sem] theorem lunF_f {k : FuncId} {xs : List D} : LunF.pf k xs = Lun.pf k xs := rfl
@[go_sem] theorem lunF_b : LunF.bs = false := rfl
@[go_sem] theorem lunF_c : LunF.cf = true := rfl
@[go_sem] theorem lun_s : Lun.dp = false := rfl
@[go_sem] theorem lunB_s : LunB.dp = false := rfl
def LunS : Con := { Lun with dp := true }
@[go_sem] theorem lunS_p {k : FuncId} : LunS.pure k = Lun.pure k := rfl
@[go_sem] theorem lunS_f {k : FuncId} {xs : List D} : LunS.pf k xs = Lun.pf k xs := rfl
@[go_sem] theorem lunS_b : LunS.bs = false := rfl
@[go_sem] theorem lunS_c : LunS.cf = false := rfl
@[go_sem] theorem lunS_s : LunS.dp = true := rfl
end Go.Proofs.YtmkblfajmnhccaaGreatDoor
namespace Go.Proofs.YtmkblfajmnhccaaGreatDoor
open Go.DL Go.Str
set_option maxRecDepth 10000
theorem bo170 : Zea Tryz.prog 170 = true := by kernel_rfl
theorem Ziy (s : Str) (c : Int) (hs : s.length ≤ 9223372036854775806) : PureCt Tryz.prog 170 [.v (.string (bs s)), .v (.int .u8 c)] (.i (lastIx s c)) := by
 rw [lastIx]
 refine Zca Tryz.func170 rfl bo170 (by simp [go_sem, D.nr, nrs, nrr]) (by simp [Tryz.f170]) ?_
 unfold Tryz.f170
 simp only [Zfa]
 have ff := True.intro
 refine stp Lun ?_
 refine Zaa ?_
 refine stp Lun ?_
 refine Zda ?_
 refine lp (α := (Nat) × Nat) [0, 1] (fun ⟨k, nx⟩ => (k ≤ s.length) ∧ (Zyb s c s.length = Zyb s c k) ∧ True) (fun ⟨k, nx⟩ => k) (fun ⟨k, nx⟩ => [(5, .i ((k : Int) - 1))]) (fun ⟨k, nx⟩ => []) (fun ⟨k, nx⟩ => nx) (s.length, _) (hA := ⟨iv, rfl, trivial⟩) (round := ?_)
 rintro ⟨k, nx⟩ ⟨hk, hv, -⟩
 show DW _ _ _ _ { n := _, t := tab _, h := _, nx := _, e := _ }
 simp only [List.cons_append, List.nil_append]
 refine Zaa ?_
 refine stp Lun ?_
 refine cd (fun c1 => ?_) (fun c1 => ?_) (hp := rfl) (hq := rfl)
 ·
  have hk2 : 0 < k := by have h7 : (0:Int) ≤ (k:Int) - 1 := (by simpa using c1); omega
  have e1 : ((k:Int) - 1).toNat = k - 1 := by omega
  have ff := And.intro @e1 ff
  refine dw_skip ?_
  show DW _ _ _ _ _
  refine Zaa ?_
  refine Zda ?_
  refine stp Lun ?_
  refine cd (fun c2 => ?_) (fun c2 => ?_)
  ·
   refine stp Lun ?_
   refine Zba ?_
   exact fin 0 (hr := by (try simp only [go_sem, ff]); all_goals (rw [hv, Zim hk2, if_pos c2]; congr 2; omega))
  ·
   refine dw_skip ?_
   show DW _ _ _ _ _
   refine rgn Lun ?_
   show ∃ _, _
   exact rnd (k - 1, _) (h1 := ⟨iv, (by (try dsimp only); rw [hv, Zim hk2, if_neg c2]), trivial⟩)
 ·
  have hk2 : k = 0 := by have h7 : ¬ (0:Int) ≤ (k:Int) - 1 := (by simpa using c1); omega
  refine Zja ?_
  show DW _ _ _ _ _
  refine stp Lun ?_
  refine Zba ?_
  exact fin 0 (hr := by (try simp only [go_sem, ff]); all_goals (rw [hv, hk2]; rfl))
theorem bo154 : Zea Tryz.prog 154 = true := by kernel_rfl
theorem Zwk (s : Str) (c : Int) (hs : s.length ≤ 9223372036854775806) : PureCt Tryz.prog 154 [.v (.string (bs s)), .v (.int .u8 c)] (.i (lastIx s c)) := by
 refine Zca Tryz.func154 rfl bo154 (by simp [go_sem, D.nr, nrs, nrr]) (by simp [Tryz.f154]) ?_
 unfold Tryz.f154
 simp only [Zfa]
 have ff := True.intro
 refine stp Lun ?_
 refine stp Lun ?_ (hok := by (try simp only [go_sem, ff]); all_goals (exact Ziy _ _ hs))
 refine Zba ?_
 exact fin 0 (hr := by (try simp only [go_sem, ff]); all_goals (rfl))
theorem bo138 : Zea Tryz.prog 138 = true := by kernel_rfl
theorem Zo5 (s : Str) : PureCt Tryz.prog 138 [.v (.string (bs s))] (.b (labelOk s)) := by
 rw [Zi9]
 refine Zca Tryz.func138 rfl bo138 (by simp [go_sem, D.nr, nrs, nrr]) (by simp [Tryz.f138]) ?_
 unfold Tryz.f138
 simp only [Zfa]
 have ff := True.intro
 have e1 : ((s.length:Int) - 1).toNat = s.length - 1 := by omega
 have ff := And.intro @e1 ff
 refine stp Lun ?_
 refine Zaa ?_
 refine stp Lun ?_
 refine cd (fun c1 => ?_) (fun c1 => ?_)
 ·
  refine stp Lun ?_
  refine Zba ?_
  exact fin 0 (hr := by (try simp only [go_sem, ff]); all_goals ((repeat' split) <;> first | rfl | (exfalso; omega)))
 ·
  refine dw_skip ?_
  show DW _ _ _ _ _
  refine Zaa ?_
  refine stp Lun ?_
  refine Zda ?_
  refine lp (α := (Nat) × Nat) [0, 27] (fun ⟨k, nx⟩ => (k ≤ s.length) ∧ (Zva s.length (okIn s) 0 = Zva s.length (okIn s) k) ∧ True) (fun ⟨k, nx⟩ => s.length - k) (fun ⟨k, nx⟩ => [(28, .i k)]) (fun ⟨k, nx⟩ => []) (fun ⟨k, nx⟩ => nx) (0, _) (hA := ⟨iv, rfl, trivial⟩) (round := ?_)
  rintro ⟨k, nx⟩ ⟨hk, hv, -⟩
  show DW _ _ _ _ { n := _, t := tab _, h := _, nx := _, e := _ }
  simp only [List.cons_append, List.nil_append]
  refine stp Lun ?_
  refine Zaa ?_
  refine cd (fun c2 => ?_) (fun c2 => ?_) (hp := rfl)
  ·
   have hk2 : k < s.length := by simpa using c2
   refine dw_skip ?_
   show DW _ _ _ _ _
   refine Zaa ?_
   refine Zda ?_
   refine stp Lun ?_
   refine stp Lun ?_
   refine stp Lun ?_
   refine cd (fun c3 => ?_) (fun c3 => ?_)
   ·
    refine stp Lun ?_
    refine Zba ?_
    exact fin 0 (hr := by (try simp only [go_sem, ff]); all_goals (have h8 : okIn s k = false := (by simp only [okIn, Zum, Bool.or_eq_false_iff, Bool.and_eq_false_iff, decide_eq_false_iff_not]; omega); rw [hv, Zeb, if_pos hk2, h8]; (repeat' split) <;> rfl))
   ·
    refine dw_skip ?_
    show DW _ _ _ _ _
    refine rgn Lun ?_
    show ∃ _, _
    exact rnd (k + 1, _) (h1 := ⟨iv, (by (try dsimp only); have h8 : okIn s k = true := (by simp only [okIn, Zum, Bool.or_eq_true, Bool.and_eq_true, decide_eq_true_eq]; omega); rw [hv, Zeb, if_pos hk2, h8]; rfl), trivial⟩)
  ·
   refine Zja ?_
   show DW _ _ _ _ _
   refine stp Lun ?_
   refine Zba ?_
   exact fin 0 (hr := by (try simp only [go_sem, ff]); all_goals (rw [hv, Zeb, if_neg (by omega), if_neg (by omega), if_neg (by omega), if_neg (by omega), if_neg (by omega)]))
theorem bo48 : Zea Tryz.prog 48 = true := by kernel_rfl
theorem Zex (s : Str) (hs : s.length ≤ 9223372036854775806) : PureCt Tryz.prog 48 [.v (.string (bs s))] (.b (labelOk s)) := by
 rw [labelOk]
 refine Zca Tryz.func48 rfl bo48 (by simp [go_sem, D.nr, nrs, nrr]) (by simp [Tryz.f48]) ?_
 unfold Tryz.f48
 simp only [Zfa]
 have ff := True.intro
 refine stp Lun ?_
 refine Zaa ?_
 refine stp Lun ?_
 refine Zda ?_
 refine lp (α := (Nat) × Nat) [0] (fun ⟨k, nx⟩ => (k ≤ s.length) ∧ (Zva s.length (Zl0 s) 0 = Zva s.length (Zl0 s) k) ∧ True) (fun ⟨k, nx⟩ => s.length - k) (fun ⟨k, nx⟩ => [(3, .i k)]) (fun ⟨k, nx⟩ => []) (fun ⟨k, nx⟩ => nx) (0, _) (hA := ⟨iv, rfl, trivial⟩) (round := ?_)
 rintro ⟨k, nx⟩ ⟨hk, hv, -⟩
 show DW _ _ _ _ { n := _, t := tab _, h := _, nx := _, e := _ }
 simp only [List.cons_append, List.nil_append]
 refine Zaa ?_
 refine stp Lun ?_
 refine cd (fun c1 => ?_) (fun c1 => ?_) (hp := rfl)
 ·
  have hk2 : k < s.length := by simpa using c1
  refine dw_skip ?_
  show DW _ _ _ _ _
  refine Zaa ?_
  refine Zda ?_
  refine stp Lun ?_
  refine stp Lun ?_
  refine stp Lun ?_
  refine cd (fun c2 => ?_) (fun c2 => ?_)
  ·
   refine stp Lun ?_
   refine Zba ?_
   exact fin 0 (hr := by (try simp only [go_sem, ff]); all_goals (have h8 : Zl0 s k = false := (by simp only [Zl0, Zum, Bool.or_eq_false_iff, Bool.and_eq_false_iff, decide_eq_false_iff_not]; omega); rw [hv, Zeb, if_pos hk2, h8]; rfl))
  ·
   refine dw_skip ?_
   show DW _ _ _ _ _
   refine rgn Lun ?_
   show ∃ _, _
   exact rnd (k + 1, _) (h1 := ⟨iv, (by (try dsimp only); have h8 : Zl0 s k = true := (by simp only [Zl0, Zum, Bool.or_eq_true, Bool.and_eq_true, decide_eq_true_eq]; omega); rw [hv, Zeb, if_pos hk2, h8]; rfl), trivial⟩)
 ·
  refine Zja ?_
  show DW _ _ _ _ _
  refine stp Lun ?_
  refine Zba ?_
  exact fin 0 (hr := by (try simp only [go_sem, ff]); all_goals (rw [hv, Zeb, if_neg (by omega)]; congr 2; rw [Bool.eq_iff_iff]; simp only [Bool.and_eq_true, decide_eq_true_eq, Bool.true_and]; omega))
theorem bo47 : Zea Tryz.prog 47 = true := by kernel_rfl
theorem Zbx (s : Str) (hs : s.length ≤ 1000) : PureCt Tryz.prog 47 [.v (.string (bs s))] (.list false ((splitF s).map sR)) := by
 rw [splitF]
 refine Zca Tryz.func47 rfl bo47 (by simp [go_sem, D.nr, nrs, nrr]) (by simp [Tryz.f47]) ?_
 unfold Tryz.f47
 simp only [Zfa]
 have ff := True.intro
 refine stp Lun ?_
 refine stp LunB ?_
 refine Zaa ?_
 refine stp Lun ?_
 refine Zda ?_
 refine lp (α := (Nat) × (List Str) × (Nat) × Nat) [0] (fun ⟨k, out, r, nx⟩ => (k ≤ s.length) ∧ (1 ≤ out.length) ∧ (out.length ≤ k + 1) ∧ (∀ x ∈ out, x.length ≤ k) ∧ (Zod s 0 [[]] = Zod s k out) ∧ (r < nx) ∧ True) (fun ⟨k, out, r, nx⟩ => s.length - k) (fun ⟨k, out, r, nx⟩ => [(3, .mrow r 0 out.length), (4, .i k)]) (fun ⟨k, out, r, nx⟩ => [(r, ⟨9, out.map sR⟩)]) (fun ⟨k, out, r, nx⟩ => nx) (0, [[]], 1, _) (hA := ⟨iv, (by first | (simp) | (dsimp only; simp)), (by first | (simp) | (dsimp only; simp)), (by first | (simp) | (dsimp only; simp)), rfl, iv, trivial⟩) (round := ?_)
 rintro ⟨k, out, r, nx⟩ ⟨hk, ho1, ho, hl, hv, hr, -⟩
 show DW _ _ _ _ { n := _, t := tab _, h := _, nx := _, e := _ }
 simp only [List.cons_append, List.nil_append]
 have ff := And.intro @hr ff
 refine Zaa ?_
 refine stp Lun ?_
 refine cd (fun c1 => ?_) (fun c1 => ?_) (hp := rfl)
 ·
  have hk2 : k < s.length := by simpa using c1
  have hk3 : out.length - 1 < out.length := by omega
  have e1 : ((out.length : Int) - 1).toNat = out.length - 1 := by omega
  have e5 : ((k : Int) + 1).toNat = k + 1 := by omega
  have hl3 : out[out.length - 1]!.length ≤ k := hl _ (by rw [getElem!_pos out _ hk3]; exact List.getElem_mem _)
  have ff := And.intro @e1 (And.intro @e5 (And.intro (Zcd hk3) (And.intro (one_cut hk2) ff)))
  refine dw_skip ?_
  show DW _ _ _ _ _
  refine Zaa ?_
  refine Zda ?_
  refine stp Lun ?_
  refine cd (fun c2 => ?_) (fun c2 => ?_)
  ·
   have e2 := Zzz (out := out) (c := s.getD k 0) c2
   refine rgn Lun ?_
   show DW _ _ _ _ _
   refine rgn Lun ?_
   show ∃ _, _
   exact rnd (k + 1, out ++ [[]], (nx + 10), _) (h1 := ⟨iv, (by first | (simp) | (dsimp only; simp)), (by first | (simp; omega) | (dsimp only; simp; omega)), (by (try dsimp only); intro x hx; rcases List.mem_append.1 hx with h | h; exact Nat.le_succ_of_le (hl x h); simp at h; subst h; exact Nat.zero_le _), (by (try dsimp only); rw [hv, Zhf, if_pos hk2, e2]), iv, trivial⟩) (h3 := by (try simp only [go_sem, ff]); all_goals (first | done | (simp [sR]; done) | (simp [sR]; omega) | ((repeat' (with_reducible apply And.intro)) <;> first | (left; simp [sR]; done) | (right; simp [go_sem, sR]; done)))) (h4 := by (try simp only [go_sem, ff]); all_goals (first | done | (simp [sR]; done) | (simp [sR]; omega) | ((repeat' (with_reducible apply And.intro)) <;> first | (left; simp [sR]; done) | (right; simp [go_sem, sR]; done)))) (h5 := by (try simp only [go_sem, ff]); all_goals (first | done | (simp [sR]; done) | (simp [sR]; omega) | ((repeat' (with_reducible apply And.intro)) <;> first | (left; simp [sR]; done) | (right; simp [go_sem, sR]; done))))
  ·
   have e2 := Za0 (out := out) (c := s.getD k 0) c2
   refine rgn Lun ?_
   show DW _ _ _ _ _
   refine rgn Lun ?_
   show ∃ _, _
   exact rnd (k + 1, out.set (out.length - 1) (out[out.length - 1]! ++ [s.getD k 0]), r, _) (h1 := ⟨iv, (by first | (simp; omega) | (dsimp only; simp; omega)), (by first | (simp; omega) | (dsimp only; simp; omega)), (by (try dsimp only); intro x hx; rcases List.mem_or_eq_of_mem_set hx with h | h; exact Nat.le_succ_of_le (hl x h); subst h; rw [List.length_append]; exact Nat.succ_le_succ hl3), (by (try dsimp only); rw [hv, Zhf, if_pos hk2, e2]), iv, trivial⟩) (h3 := by (try simp only [go_sem, ff]); all_goals (first | done | (simp [sR]; done) | (simp [sR]; omega) | ((repeat' (with_reducible apply And.intro)) <;> first | (left; simp [sR]; done) | (right; simp [go_sem, sR]; done)))) (h4 := by (try simp only [go_sem, ff]); all_goals (first | done | (simp [sR]; done) | (simp [sR]; omega) | ((repeat' (with_reducible apply And.intro)) <;> first | (left; simp [sR]; done) | (right; simp [go_sem, sR]; done)))) (h5 := by (try simp only [go_sem, ff]); all_goals (first | done | (simp [sR]; done) | (simp [sR]; omega) | ((repeat' (with_reducible apply And.intro)) <;> first | (left; simp [sR]; done) | (right; simp [go_sem, sR]; done))))
 ·
  refine Zja ?_
  show DW _ _ _ _ _
  refine stp Lun ?_
  refine Zba ?_
  exact fin 1 (hr := by (try simp only [go_sem, ff]); all_goals (rw [hv, Zhf, if_neg (by omega)]))
theorem bo20 : Zea Tryz.prog 20 = true := by kernel_rfl
theorem Zma (s : Str) : PureCt Tryz.prog 20 [.v (.string (bs s))] (.b (nameOk s)) := by
 rw [nameOk]
 refine Zca Tryz.func20 rfl bo20 (by simp [go_sem, D.nr, nrs, nrr]) (by simp [Tryz.f20]) ?_
 unfold Tryz.f20
 simp only [Zfa]
 have ff := True.intro
 refine stp Lun ?_
 refine Zaa ?_
 refine stp Lun ?_
 refine cd (fun c1 => ?_) (fun c1 => ?_)
 ·
  refine stp Lun ?_
  refine Zba ?_
  exact fin 0 (hr := by (try simp only [go_sem, ff]); all_goals (rw [if_pos c1]))
 ·
  refine dw_skip ?_
  show DW _ _ _ _ _
  refine Zaa ?_
  refine stp Lun ?_
  refine cd (fun c2 => ?_) (fun c2 => ?_)
  ·
   refine stp Lun ?_
   refine Zba ?_
   exact fin 0 (hr := by (try simp only [go_sem, ff]); all_goals (rw [if_neg c1, if_pos (by omega)]))
  ·
   refine dw_skip ?_
   show DW _ _ _ _ _
   refine stp Lun ?_ (hok := by (try simp only [go_sem, ff]); all_goals (exact Zbx _ (by omega)))
   refine Zaa ?_
   refine stp Lun ?_
   refine Zda ?_
   refine lp (α := (Nat) × Nat) [3] (fun ⟨k, nx⟩ => (k ≤ (splitF s).length) ∧ (Zva (splitF s).length (Zvi (splitF s)) 0 = Zva (splitF s).length (Zvi (splitF s)) k) ∧ True) (fun ⟨k, nx⟩ => (splitF s).length - k) (fun ⟨k, nx⟩ => [(4, .i k)]) (fun ⟨k, nx⟩ => []) (fun ⟨k, nx⟩ => nx) (0, _) (hA := ⟨iv, rfl, trivial⟩) (round := ?_)
   rintro ⟨k, nx⟩ ⟨hk, hv, -⟩
   show DW _ _ _ _ { n := _, t := tab _, h := _, nx := _, e := _ }
   simp only [List.cons_append, List.nil_append]
   have hsl := Zj7 s k
   have hsn := (Zyj s).2
   refine Zaa ?_
   refine stp Lun ?_
   refine cd (fun c3 => ?_) (fun c3 => ?_) (hp := rfl)
   ·
    have hk2 : k < (splitF s).length := by simpa using c3
    have ff := And.intro (Zcd hk2) ff
    refine dw_skip ?_
    show DW _ _ _ _ _
    refine Zaa ?_
    refine Zda ?_
    refine stp Lun ?_ (hok := by (try simp only [go_sem, ff]); all_goals (first | done | exact Zex _ (by omega) | ((repeat' (with_reducible apply And.intro)) <;> first | omega | exact Zex _ (by omega))))
    refine stp Lun ?_ (hok := by (try simp only [go_sem, ff]); all_goals (refine ⟨fun _ => ⟨by omega, by omega⟩, fun h1 _ => ⟨h1, fun h3 => by rw [h1, h3]; rfl⟩⟩))
    refine cd (fun c4 => ?_) (fun c4 => ?_)
    ·
     refine stp Lun ?_
     refine Zba ?_
     exact fin 0 (hr := by (try simp only [go_sem, ff]); all_goals (rw [if_neg c1, if_neg (by omega), hv, Zeb, if_pos hk2, partOk_f c4.1 (by first | exact c4.2 | (rcases c4.2 with h | h; exact .inl (by omega); exact .inr h))]; rfl))
    ·
     refine dw_skip ?_
     show DW _ _ _ _ _
     refine rgn Lun ?_
     show ∃ _, _
     exact rnd (k + 1, _) (h1 := ⟨iv, (by (try dsimp only); rw [hv, Zeb, if_pos hk2, partOk_t (by first | exact c4 | (rcases c4 with h | h; exact .inl h; exact .inr ⟨by omega, h.2⟩))]; rfl), trivial⟩)
   ·
    refine Zja ?_
    show DW _ _ _ _ _
    refine stp Lun ?_
    refine Zba ?_
    exact fin 0 (hr := by (try simp only [go_sem, ff]); all_goals (rw [if_neg c1, if_neg (by omega), hv, Zeb, if_neg (by omega), Bool.true_and]; congr 2; exact decide_eq_decide.2 (by omega)))
theorem bo49 : Zea Tryz.prog 49 = true := by kernel_rfl
theorem Zag (s : Str) (hs : s.length ≤ 1000) : PureCt Tryz.prog 49 [.v (.string (bs s))] (.list false ((partsOf s).map sR)) := by
 rw [partsOf]
 refine Zca Tryz.func49 rfl bo49 (by simp [go_sem, D.nr, nrs, nrr]) (by simp [Tryz.f49]) ?_
 unfold Tryz.f49
 simp only [Zfa]
 have ff := True.intro
 refine stp Lun ?_
 refine Zaa ?_
 refine stp Lun ?_
 refine cd (fun c1 => ?_) (fun c1 => ?_)
 ·
  refine stp Lun ?_
  refine Zba ?_
  exact fin 0 (hr := by (try simp only [go_sem, ff]); all_goals (rw [if_pos c1]; rfl))
 ·
  refine dw_skip ?_
  show DW _ _ _ _ _
  refine stp Lun ?_ (hok := by (try simp only [go_sem, ff]); all_goals (exact Zbx _ hs))
  refine Zba ?_
  exact fin 0 (hr := by (try simp only [go_sem, ff]); all_goals (rw [if_neg c1]))
set_option maxRecDepth 10000
theorem bo137 : Zea Tryz.prog 137 = true := by kernel_rfl
theorem bo103 : Zea Tryz.prog 103 = true := by kernel_rfl
theorem Zjh (s : Str) : PureCt Tryz.prog 103 [.v (.string (bs s))] (.b (nameOk s)) := by
 refine Zca Tryz.func103 rfl bo103 (by simp [go_sem, D.nr, nrs, nrr]) (by simp [Tryz.f103]) ?_
 unfold Tryz.f103
 simp only [Zfa]
 have ff := True.intro
 refine stp Lun ?_
 refine Zaa ?_
 refine stp Lun ?_
 refine cd (fun c1 => ?_) (fun c1 => ?_)
 ·
  refine stp Lun ?_
  refine Zba ?_
  exact fin 0 (hr := by (try simp only [go_sem, ff]); all_goals (rw [nameOk, if_pos c1]))
 ·
  refine dw_skip ?_
  show DW _ _ _ _ _
  refine Zaa ?_
  refine stp Lun ?_
  refine cd (fun c3 => ?_) (fun c3 => ?_)
  ·
   refine stp Lun ?_
   refine Zba ?_
   exact fin 0 (hr := by (try simp only [go_sem, ff]); all_goals (rw [nameOk, if_neg c1, if_pos (by omega)]))
  ·
   refine dw_skip ?_
   show DW _ _ _ _ _
   refine stp Lun ?_
   refine Zaa ?_
   refine stp Lun ?_
   refine Zda ?_
   refine Zho (by simp only [go_sem, ff]) (by simp only [go_sem, ff]; exact rfl) Tryz.func137 rfl bo137 (by simp [Tryz.f137]) rfl (fun l rL hp ha hb hn => ?_)
   unfold Tryz.f137
   refine Zaa ?_
   refine stp Lun ?_
   refine cd (fun d0 => ?_) (fun d0 => ?_)
   ·
    exact absurd d0 c1
   ·
    refine dw_skip ?_
    show DW _ _ _ _ _
    refine stp Lun ?_
    refine Zda ?_
    refine lp (α := (Str) × (Nat) × (Bool) × Nat) [1] (fun ⟨rest, n, wild, nx⟩ => (n ≤ 8) ∧ (rest.length ≤ s.length) ∧ (7 < nx) ∧ (nameOk s = Zgl (Zeg rest) n wild) ∧ True) (fun ⟨rest, n, wild, nx⟩ => rest.length) (fun ⟨rest, n, wild, nx⟩ => [(4, .v (.string (bs rest)))]) (fun ⟨rest, n, wild, nx⟩ => [(0, ⟨4, [[.b false]]⟩), (6, ⟨3, [[.i n]]⟩), (7, ⟨4, [[.b wild]]⟩)]) (fun ⟨rest, n, wild, nx⟩ => nx) (s, 0, false, _) (hA := ⟨(by first | (omega) | (dsimp only; omega)), (by first | (first | omega | (simp; omega)) | (dsimp only; first | omega | (simp; omega))), iv, (by (try dsimp only); rw [Zwq, if_neg c1, if_neg (by omega)]), trivial⟩) (round := ?_)
    rintro ⟨rest, n, wild, nx⟩ ⟨hn8, hl, hx, hv, -⟩
    show DW _ _ _ _ { n := _, t := tab _, h := _, nx := _, e := _ }
    simp only [List.cons_append, List.nil_append]
    have hL := Zhm rest 46
    have n0 : 0 < nx := by omega
    have n6 : 6 < nx := by omega
    have n7 : 7 < nx := by omega
    refine Zda ?_
    refine stp Lun ?_ (hok := by (try simp only [go_sem, ff]); all_goals (first | done | exact Zwk _ _ (by omega)))
    refine Zaa ?_
    refine Zaa ?_
    refine Zl3 (C := Lun) (r := rL) 5 (Zxb rfl) rfl rfl rfl (by simp only [List.take_succ_cons, List.take_zero, go_sem, ff]; exact rfl) ?_ (by simp only [go_sem, ff]; exact rfl) (by first | (simp only [go_sem, ff]; done) | (simp only [go_sem, ff]; exact rfl)) (by simp only [go_sem, ff]) (by simp only [go_sem, ff]; exact rfl) (by rw [hp]; rfl) (by rw [hp, hn]; show ∀ p ∈ [13], p < 30; decide) ?_
    ·
     try simp only [go_sem, ff]
     all_goals (first | done | (repeat' (with_reducible apply And.intro)) <;> first | omega | (with_reducible assumption) | (intros; omega) | (intros; simp only [decide_eq_true_eq, decide_eq_false_iff_not, Bool.or_eq_true, Bool.and_eq_true, Bool.or_eq_false_iff, Bool.not_eq_true', Bool.not_eq_false'] at *; omega) | (simp_all; done) | (simp_all; omega))
    rw [ha, hb, hp, hn]
    show DW _ _ _ _ { n := _, t := Zyw _ [13] _, h := _, nx := _ }
    simp only [Zus, Zxw]
    refine rgn Lun ?_
    refine ⟨rfl, ?_⟩
    refine Zda ?_
    refine stp Lun ?_
    refine Zaa ?_
    refine stp Lun ?_
    refine cd (fun c9 => ?_) (fun c9 => ?_) (hp := rfl) (hq := rfl)
    ·
     refine stp Lun ?_
     refine Zba ?_
     refine ⟨rfl, false, some .ret, ⟨rfl, rfl⟩, ⟨_, _, _, _, _, _⟩, by simp only [List.drop_succ_cons, List.drop_zero, S.put, go_sem, ff]; exact rfl, ?_, ?_⟩
     ·
      try simp only [go_sem, ff]
      all_goals (first | done | (repeat' (with_reducible apply And.intro)) <;> first | omega | (with_reducible assumption) | (intros; omega) | (intros; simp only [decide_eq_true_eq, decide_eq_false_iff_not, Bool.or_eq_true, Bool.and_eq_true, Bool.or_eq_false_iff, Bool.not_eq_true', Bool.not_eq_false'] at *; omega) | (simp_all; done) | (simp_all; omega))
     try simp only [Zna]
     show DW _ _ _ _ _
     refine cd (fun d3 => ?_) (fun d3 => ?_) (hp := rfl) (hq := rfl)
     ·
      refine Zba ?_
      refine ⟨.inr rfl, some .ret, rfl, ?_⟩
      exact fin 0 (hr := by (try simp only [go_sem, ff]); all_goals (first | (rw [hv, Zhc, Zq6 c9]; done) | (rw [hv, Zhc, Zp6 c9 c12])))
     ·
      simp at d3
    ·
     have c9b := cnt_le c9
     refine dw_skip ?_
     show DW _ _ _ _ _
     refine stp Lun ?_
     refine stp Lun ?_ (hok := by (try simp only [go_sem, ff]); all_goals (first | done | (intros; exact Zo5 _)))
     refine cd (fun c12 => ?_) (fun c12 => ?_) (hp := rfl) (hq := rfl)
     ·
      refine stp Lun ?_
      refine Zba ?_
      refine ⟨rfl, false, some .ret, ⟨rfl, rfl⟩, ⟨_, _, _, _, _, _⟩, by simp only [List.drop_succ_cons, List.drop_zero, S.put, go_sem, ff]; exact rfl, ?_, ?_⟩
      ·
       try simp only [go_sem, ff]
       all_goals (first | done | (repeat' (with_reducible apply And.intro)) <;> first | omega | (with_reducible assumption) | (intros; omega) | (intros; simp only [decide_eq_true_eq, decide_eq_false_iff_not, Bool.or_eq_true, Bool.and_eq_true, Bool.or_eq_false_iff, Bool.not_eq_true', Bool.not_eq_false'] at *; omega) | (simp_all; done) | (simp_all; omega))
      try simp only [Zna]
      show DW _ _ _ _ _
      refine cd (fun d3 => ?_) (fun d3 => ?_) (hp := rfl) (hq := rfl)
      ·
       refine Zba ?_
       refine ⟨.inr rfl, some .ret, rfl, ?_⟩
       exact fin 0 (hr := by (try simp only [go_sem, ff]); all_goals (first | (rw [hv, Zhc, Zq6 c9]; done) | (rw [hv, Zhc, Zp6 c9 c12])))
      ·
       simp at d3
     ·
      refine dw_skip ?_
      refine ⟨rfl, true, none, ⟨rfl, rfl⟩, ⟨_, _, _, _, _, _⟩, by simp only [List.drop_succ_cons, List.drop_zero, S.put, go_sem, ff]; exact rfl, ?_, ?_⟩
      ·
       try simp only [go_sem, ff]
       all_goals (first | done | (repeat' (with_reducible apply And.intro)) <;> first | omega | (with_reducible assumption) | (intros; omega) | (intros; simp only [decide_eq_true_eq, decide_eq_false_iff_not, Bool.or_eq_true, Bool.and_eq_true, Bool.or_eq_false_iff, Bool.not_eq_true', Bool.not_eq_false'] at *; omega) | (simp_all; done) | (simp_all; omega))
      try simp only [Zna]
      show DW _ _ _ _ _
      refine cd (fun d3 => ?_) (fun d3 => ?_)
      ·
       refine Zba ?_
       refine ⟨.inr rfl, none, rfl, ?_⟩
       show DW _ _ _ _ _
       refine stp Lun ?_
       refine Zba ?_
       exact fin 0 (hr := by (try simp only [go_sem, ff]); all_goals (rw [hv, Zhc, Zo6 c9 c12, if_pos d3]; rfl))
      ·
       refine dw_skip ?_
       show DW _ _ _ _ _
       refine rgn Lun ?_
       show ∃ _, _
       exact rnd (rest.take (lastIx rest 46).toNat, n + 1, ((rest.drop (lastIx rest 46 + 1).toNat) == [42]), _) (h1 := ⟨(by first | (omega) | (dsimp only; omega)), (by first | (first | omega | (simp; omega)) | (dsimp only; first | omega | (simp; omega))), iv, (by (try dsimp only); rw [hv, Zhc, Zo6 c9 c12, if_neg d3]), trivial⟩) (h2 := by show (_ : Nat) < _; (simp; omega))
theorem bo87 : Zea Tryz.prog 87 = true := by kernel_rfl
theorem Zxc (s : Str) : PureCt Tryz.prog 87 [.v (.string (bs s))] (.b (nameOk s)) := by
 refine Zca Tryz.func87 rfl bo87 (by simp [go_sem, D.nr, nrs, nrr]) (by simp [Tryz.f87]) ?_
 unfold Tryz.f87
 simp only [Zfa]
 have ff := True.intro
 refine stp Lun ?_
 refine stp Lun ?_ (hok := by (try simp only [go_sem, ff]); all_goals (exact Zjh _))
 refine Zba ?_
 exact fin 0 (hr := by (try simp only [go_sem, ff]); all_goals (rfl))
end Go.Proofs.YtmkblfajmnhccaaGreatDoor
namespace Go.Proofs.YtmkblfajmnhccaaGreatDoor
open Go.DL Go.Str Go.RowKit
set_option maxRecDepth 10000
def cmpRen : Go.Shelf.Ren := { f := fun x => match x with | 213 => 156 | 265 => 171 | n => n, t := fun x => match x with | 3 => 3 | 9 => 9 | n => n, g := fun n => n }
theorem cmpLays : Go.Proofs.Lays.n213 Tryz.prog cmpRen := {
 mixed := mix
 f213 := Tryz.func156.trans (by kernel_rfl)
 f265 := Tryz.func171.trans (by kernel_rfl)
 t3 := Tryz.underlying3
 a3 := Tryz.isAgg3
 z3 := Tryz.sizeOf3
 v3 := Tryz.zeroValue3
 t9 := Tryz.underlying9
 a9 := Tryz.isAgg9
 z9 := Tryz.sizeOf9
 v9 := Tryz.zeroValue9 }
theorem cmpS0_ct (a b : Str) : PureCt Tryz.prog 156 [.v (.string (bs a)), .v (.string (bs b))] (.i (Go.Lib.compareBytes a b)) := by
 refine ⟨by kernel_rfl, by simp [D.nr], fun w I vs hI hg hr => ?_⟩
 obtain ⟨x, l, rfl, h1, h2⟩ := hr.of_cons
 obtain ⟨y, l, rfl, h3, h4⟩ := h2.of_cons
 rw [h4.of_nil, h1.v_inv, h3.v_inv]
 have := Go.Proofs.Any.bytealg_CompareString cmpLays (bs a) (bs b) w
 refine callsIn_wide.2 (this.mono ?_)
 rintro e w' ⟨rfl, rfl⟩
 refine ⟨_, rfl, ⟨rfl, rfl, rfl, Nat.le_refl _, Nat.le_refl _, fun _ _ => rfl⟩, ?_⟩
 rw [Zri, Zri]
 exact .v _
theorem bo141 : Zea Tryz.prog 141 = true := by kernel_rfl
theorem cmpS1_ct (a : Str) (b : Str) : PureCt Tryz.prog 141 [.v (.string (bs a)), .v (.string (bs b))] (.i (Go.Lib.compareBytes a b)) := by
 refine Zca Tryz.func141 rfl bo141 (by simp [go_sem, D.nr, nrs, nrr]) (by simp [Tryz.f141]) ?_
 unfold Tryz.f141
 simp only [Zfa]
 have ff := True.intro
 refine stp Lun ?_
 refine stp Lun ?_ (hok := by (try simp only [go_sem, ff]); all_goals (exact cmpS0_ct _ _))
 refine Zba ?_
 exact fin 0 (hr := by (try simp only [go_sem, ff]); all_goals (rfl))
set_option maxRecDepth 10000
theorem bo140 : Zea Tryz.prog 140 = true := by kernel_rfl
theorem Zh8 (s : Str) (h : H) (n : Nat) : RCt Tryz.prog 140 [.v (.string (bs s))] h n (fun d h' n' => d = .fn (.func 155) [] [.mptr (n + 5) 0 0, .mptr (n + 4) 0 0] ∧ h' = upd (upd h (n + 4) (some ⟨9, [[.v (.string (bs s))]]⟩)) (n + 5) (some ⟨4, [[.b (s != [46])]]⟩) ∧ n' = n + 10) := by
 refine Znb Tryz.func140 rfl bo140 (by simp [Tryz.f140]) (fun hnone => ?_)
 unfold Tryz.f140
 have ff := True.intro
 have e45 : (n + 4 = n + 5) = False := eq_false (by omega)
 have e54 : (n + 5 = n + 4) = False := eq_false (by omega)
 have ff := And.intro @e45 (And.intro @e54 ff)
 refine stp Lun ?_
 refine stp Lun ?_
 refine stp Lun ?_
 refine Zba ?_
 exact Zpk (upd (upd h (n + 4) (some ⟨9, [[.v (.string (bs s))]]⟩)) (n + 5) (some ⟨4, [[.b (s != [46])]]⟩)) (hr := by (try simp only [go_sem, ff]); all_goals (exact ⟨rfl, rfl, rfl⟩)) (hh := by intro q; left; by_cases e1 : q = n + 5 <;> by_cases e2 : q = n + 4 <;> simp [upd, e1, e2])
theorem bo155 : Zea Tryz.prog 155 = true := by kernel_rfl
theorem pull_ct (more : Bool) (rest : Str) (m r : Nat) (h : H) (n : Nat) (hm : h m = some ⟨4, [[.b more]]⟩) (hr : h r = some ⟨9, [[.v (.string (bs rest))]]⟩) (hmr : m ≠ r) (hl : rest.length ≤ 1000) : RCt Tryz.prog 155 [.mptr m 0 0, .mptr r 0 0] h n (fun d h' n' => d = .tuple [.v (.string (bs (Zyl more rest))), .b more] ∧ h' = upd (upd h m (some ⟨4, [[.b (Zoh more rest)]]⟩)) r (some ⟨9, [[.v (.string (bs (Znh more rest)))]]⟩) ∧ n ≤ n') := by
 refine Znb Tryz.func155 rfl bo155 (by simp [Tryz.f155]) (fun hnone => ?_)
 unfold Tryz.f155
 have ff := True.intro
 have hrm : r ≠ m := fun e => hmr e.symm
 have hL := Zhm rest 46
 have ff := And.intro @hm (And.intro @hr (And.intro @hmr (And.intro @hrm ff)))
 refine stp Lun ?_
 refine Zaa ?_
 refine stp Lun ?_
 refine cd (fun c1 => ?_) (fun c1 => ?_)
 ·
  refine stp Lun ?_
  refine Zba ?_
  exact Zpk (upd (upd h m (some ⟨4, [[.b (Zoh more rest)]]⟩)) r (some ⟨9, [[.v (.string (bs (Znh more rest)))]]⟩)) (hr := by (try simp only [go_sem, ff]); all_goals (first | exact Nat.le_add_right _ _ | (refine ⟨?_, Nat.le_add_right _ _⟩; simp_all [Zyl]))) (hh := by intro q; left; by_cases e1 : q = r <;> by_cases e2 : q = m <;> simp_all [upd, Zoh, Znh] <;> (rw [if_neg (by omega)]))
 ·
  refine dw_skip ?_
  show DW _ _ _ _ _
  refine stp Lun ?_ (hok := by (try simp only [go_sem, ff]); all_goals (first | done | exact Zwk _ _ (by omega)))
  refine stp Lun ?_
  refine Zaa ?_
  refine stp Lun ?_
  refine cd (fun c2 => ?_) (fun c2 => ?_)
  ·
   refine rgn Lun ?_
   show DW _ _ _ _ _
   refine stp Lun ?_
   refine Zba ?_
   exact Zpk (upd (upd h m (some ⟨4, [[.b (Zoh more rest)]]⟩)) r (some ⟨9, [[.v (.string (bs (Znh more rest)))]]⟩)) (hr := by (try simp only [go_sem, ff]); all_goals (first | exact Nat.le_add_right _ _ | (refine ⟨?_, Nat.le_add_right _ _⟩; simp_all [Zyl]))) (hh := by intro q; left; by_cases e1 : q = r <;> by_cases e2 : q = m <;> simp_all [upd, Zoh, Znh] <;> (rw [if_neg (by omega)]))
  ·
   refine rgn Lun ?_
   show DW _ _ _ _ _
   refine stp Lun ?_
   refine Zba ?_
   exact Zpk (upd (upd h m (some ⟨4, [[.b (Zoh more rest)]]⟩)) r (some ⟨9, [[.v (.string (bs (Znh more rest)))]]⟩)) (hr := by (try simp only [go_sem, ff]); all_goals (first | exact Nat.le_add_right _ _ | (refine ⟨?_, Nat.le_add_right _ _⟩; simp_all [Zyl]))) (hh := by intro q; left; by_cases e1 : q = r <;> by_cases e2 : q = m <;> simp_all [upd, Zoh, Znh] <;> (rw [if_neg (by omega)]))
set_option maxRecDepth 10000
theorem bo107 : Zea Tryz.prog 107 = true := by kernel_rfl
theorem Zvk (a : Str) (b : Str) : PureCt Tryz.prog 107 [.v (.string (bs a)), .v (.string (bs b))] (.tuple [.i (if nameOk a && nameOk b then nmCmp a b else 0), .i (if nameOk a && nameOk b then 0 else 11)]) := by
 refine Zca Tryz.func107 rfl bo107 (by simp [go_sem, D.nr, nrs, nrr]) (by simp [Tryz.f107]) ?_
 unfold Tryz.f107
 simp only [Zfa]
 have ff := True.intro
 refine stp Lun ?_
 refine stp Lun ?_
 refine Zaa ?_
 refine stp Lun ?_ (hok := by (try simp only [go_sem, ff]); all_goals (first | done | (simp only [Zjh, and_true, implies_true]; done) | ((repeat' (with_reducible apply And.intro)) <;> first | exact Zjh _ | (intros; exact Zjh _))))
 refine cd (fun c1 => ?_) (fun c1 => ?_) (hp := rfl)
 ·
  refine stp Lun ?_
  refine Zba ?_
  exact fin 1 (hr := by (try simp only [go_sem, ff]); all_goals ((have e : (nameOk a && nameOk b) = false := by revert c1; cases nameOk a <;> cases nameOk b <;> simp); rw [e]; rfl))
 ·
  refine dw_skip ?_
  show DW _ _ _ _ _
  refine Zaa ?_
  refine stp Lun ?_
  refine cd (fun c2 => ?_) (fun c2 => ?_)
  ·
   refine stp Lun ?_
   refine Zba ?_
   exact fin 1 (hr := by (try simp only [go_sem, ff]); all_goals (rw [c1.1, c1.2, nmCmp, if_pos c2]; rfl))
  ·
   refine dw_skip ?_
   show DW _ _ _ _ _
   refine Zaa (Zw1 Lun 1 (hct := by exact Zh8 b _ _) (hk := ?_))
   rintro res h2 n2 ⟨rfl, rfl, rfl⟩
   refine Zv1 Lun ?_
   show DW _ _ _ _ _
   refine stp Lun ?_
   refine Zaa ?_
   refine stp Lun ?_
   refine Zda ?_
   refine Zho (by simp only [go_sem, ff]) (by simp only [go_sem, ff]; exact rfl) Tryz.func137 rfl bo137 (by simp [Tryz.f137]) rfl (fun l rL hp ha hb hn => ?_)
   unfold Tryz.f137
   refine Zaa ?_
   refine stp Lun ?_
   refine cd (fun d0 => ?_) (fun d0 => ?_)
   ·
    refine Zba ?_
    refine ⟨.inr rfl, none, rfl, ?_⟩
    show DW _ _ _ _ _
    refine stp Lun ?_
    refine Zba ?_
    exact fin 1 (hr := by (try simp only [go_sem, ff]); all_goals (first | (rw [c1.1, c1.2, nmCmp, if_neg c2, hv, cmp_3 c11 c14, if_pos d3]; rfl) | (rw [c1.1, c1.2, nmCmp, if_neg c2, d0]; rfl)))
   ·
    refine dw_skip ?_
    show DW _ _ _ _ _
    refine stp Lun ?_
    refine Zda ?_
    refine lp (α := (Str) × (Bool) × (Str) × Nat) [1] (fun ⟨rest, more, rest2, nx⟩ => (rest.length ≤ 60) ∧ (rest2.length ≤ 60) ∧ (30 < nx) ∧ (Zzo (Zfe a) (Zfe b) = Zzo (Zeg rest) (pl more rest2)) ∧ True) (fun ⟨rest, more, rest2, nx⟩ => rest.length) (fun ⟨rest, more, rest2, nx⟩ => [(4, .v (.string (bs rest)))]) (fun ⟨rest, more, rest2, nx⟩ => [(0, ⟨3, [[.i 0]]⟩), (1, ⟨37, [[.i 0]]⟩), (22, ⟨9, [[.v (.string (bs rest2))]]⟩), (23, ⟨4, [[.b more]]⟩), (30, ⟨150, [[.fn (.func 155) [] [.mptr 23 0 0, .mptr 22 0 0]]]⟩)]) (fun ⟨rest, more, rest2, nx⟩ => nx) (a, (b != [46]), b, _) (hA := ⟨(by first | (exact Zta c1.1) | (dsimp only; exact Zta c1.1)), (by first | (exact Zta c1.2) | (dsimp only; exact Zta c1.2)), iv, (by (try dsimp only); rw [rlabs_pl b, Zfe, if_neg d0]), trivial⟩) (round := ?_)
    rintro ⟨rest, more, rest2, nx⟩ ⟨hl, hl2, hx, hv, -⟩
    show DW _ _ _ _ { n := _, t := tab _, h := _, nx := _, e := _ }
    simp only [List.cons_append, List.nil_append]
    have hL := Zhm rest 46
    have n0 : 0 < nx := by omega
    have n1 : 1 < nx := by omega
    have n22 : 22 < nx := by omega
    have n23 : 23 < nx := by omega
    refine Zda ?_
    refine stp Lun ?_ (hok := by (try simp only [go_sem, ff]); all_goals (first | done | exact Zwk _ _ (by omega)))
    refine Zaa ?_
    refine Zaa ?_
    refine Zl3 (C := Lun) (r := rL) 5 (Zxb rfl) rfl rfl rfl (by simp only [List.take_succ_cons, List.take_zero, go_sem, ff]; exact rfl) ?_ (by simp only [go_sem, ff]; exact rfl) (by first | (simp only [go_sem, ff]; done) | (simp only [go_sem, ff]; exact rfl)) (by simp only [go_sem, ff]) (by simp only [go_sem, ff]; exact rfl) (by rw [hp]; rfl) (by rw [hp, hn]; show ∀ p ∈ [32], p < 46; decide) ?_
    ·
     try simp only [go_sem, ff]
     all_goals (first | done | (repeat' (with_reducible apply And.intro)) <;> first | omega | (with_reducible assumption) | (intros; omega) | (intros; simp only [decide_eq_true_eq, decide_eq_false_iff_not, Bool.or_eq_true, Bool.and_eq_true, Bool.or_eq_false_iff, Bool.not_eq_true', Bool.not_eq_false'] at *; omega) | (simp_all; done) | (simp_all; omega))
    rw [ha, hb, hp, hn]
    show DW _ _ _ _ { n := _, t := Zyw _ [32] _, h := _, nx := _ }
    simp only [Zus, Zxw]
    refine rgn Lun ?_
    refine ⟨rfl, ?_⟩
    refine Zda ?_
    refine Zaa (Zw1 Lun 1 (hct := by exact pull_ct more rest2 23 22 _ _ rfl rfl (by decide) (by omega)) (hk := ?_))
    rintro res h2 n2 ⟨rfl, rfl, hn2⟩
    refine Zv1 Lun ?_
    show DW _ _ _ _ _
    refine Zaa ?_
    refine stp Lun ?_
    refine cd (fun c11 => ?_) (fun c11 => ?_) (hp := rfl) (hq := rfl)
    ·
     refine stp Lun ?_
     refine Zba ?_
     refine ⟨rfl, false, some .ret, ⟨rfl, rfl⟩, ⟨_, _, _, _, _, _⟩, by simp only [List.drop_succ_cons, List.drop_zero, S.put, go_sem, ff]; exact rfl, ?_, ?_⟩
     ·
      try simp only [go_sem, ff]
      all_goals (first | done | (repeat' (with_reducible apply And.intro)) <;> first | omega | (with_reducible assumption) | (intros; omega) | (intros; simp only [decide_eq_true_eq, decide_eq_false_iff_not, Bool.or_eq_true, Bool.and_eq_true, Bool.or_eq_false_iff, Bool.not_eq_true', Bool.not_eq_false'] at *; omega) | (simp_all; done) | (simp_all; omega))
     try simp only [Zna]
     show DW _ _ _ _ _
     refine cd (fun d3 => ?_) (fun d3 => ?_) (hp := rfl) (hq := rfl)
     ·
      refine Zba ?_
      refine ⟨.inr rfl, some .ret, rfl, ?_⟩
      exact fin 1 (hr := by (try simp only [go_sem, ff]); all_goals (first | (rw [c1.1, c1.2, nmCmp, if_neg c2, hv, cmp_1 c11]; done) | (rw [c1.1, c1.2, nmCmp, if_neg c2, hv, cmp_1 c11]; rfl) | (rw [c1.1, c1.2, nmCmp, if_neg c2, hv, cmp_2 c11 c14]; rfl)))
     ·
      simp at d3
    ·
     refine dw_skip ?_
     show DW _ _ _ _ _
     refine stp Lun ?_ (hok := by (try simp only [go_sem, ff]); all_goals (exact cmpS1_ct _ _))
     refine stp Lun ?_
     refine cd (fun c14 => ?_) (fun c14 => ?_) (hp := rfl) (hq := rfl)
     ·
      refine stp Lun ?_
      refine Zba ?_
      refine ⟨rfl, false, some .ret, ⟨rfl, rfl⟩, ⟨_, _, _, _, _, _⟩, by simp only [List.drop_succ_cons, List.drop_zero, S.put, go_sem, ff]; exact rfl, ?_, ?_⟩
      ·
       try simp only [go_sem, ff]
       all_goals (first | done | (repeat' (with_reducible apply And.intro)) <;> first | omega | (with_reducible assumption) | (intros; omega) | (intros; simp only [decide_eq_true_eq, decide_eq_false_iff_not, Bool.or_eq_true, Bool.and_eq_true, Bool.or_eq_false_iff, Bool.not_eq_true', Bool.not_eq_false'] at *; omega) | (simp_all; done) | (simp_all; omega))
      try simp only [Zna]
      show DW _ _ _ _ _
      refine cd (fun d3 => ?_) (fun d3 => ?_) (hp := rfl) (hq := rfl)
      ·
       refine Zba ?_
       refine ⟨.inr rfl, some .ret, rfl, ?_⟩
       exact fin 1 (hr := by (try simp only [go_sem, ff]); all_goals (first | (rw [c1.1, c1.2, nmCmp, if_neg c2, hv, cmp_1 c11]; done) | (rw [c1.1, c1.2, nmCmp, if_neg c2, hv, cmp_1 c11]; rfl) | (rw [c1.1, c1.2, nmCmp, if_neg c2, hv, cmp_2 c11 c14]; rfl)))
      ·
       simp at d3
     ·
      refine dw_skip ?_
      refine ⟨rfl, true, none, ⟨rfl, rfl⟩, ⟨_, _, _, _, _, _⟩, by simp only [List.drop_succ_cons, List.drop_zero, S.put, go_sem, ff]; exact rfl, ?_, ?_⟩
      ·
       try simp only [go_sem, ff]
       all_goals (first | done | (repeat' (with_reducible apply And.intro)) <;> first | omega | (with_reducible assumption) | (intros; omega) | (intros; simp only [decide_eq_true_eq, decide_eq_false_iff_not, Bool.or_eq_true, Bool.and_eq_true, Bool.or_eq_false_iff, Bool.not_eq_true', Bool.not_eq_false'] at *; omega) | (simp_all; done) | (simp_all; omega))
      try simp only [Zna]
      show DW _ _ _ _ _
      refine cd (fun d3 => ?_) (fun d3 => ?_)
      ·
       refine Zba ?_
       refine ⟨.inr rfl, none, rfl, ?_⟩
       show DW _ _ _ _ _
       refine stp Lun ?_
       refine Zba ?_
       exact fin 1 (hr := by (try simp only [go_sem, ff]); all_goals (first | (rw [c1.1, c1.2, nmCmp, if_neg c2, hv, cmp_3 c11 c14, if_pos d3]; rfl) | (rw [c1.1, c1.2, nmCmp, if_neg c2, d0]; rfl)))
      ·
       refine dw_skip ?_
       show DW _ _ _ _ _
       refine rgn Lun ?_
       show ∃ _, _
       exact rnd (rest.take (lastIx rest 46).toNat, Zoh more rest2, Znh more rest2, _) (h1 := ⟨(by first | (first | omega | (simp; omega)) | (dsimp only; first | omega | (simp; omega))), (by (try dsimp only); first | omega | (have := Zx4 more rest2; omega)), iv, (by (try dsimp only); rw [hv, cmp_3 c11 c14, if_neg d3]), trivial⟩) (h2 := by show (_ : Nat) < _; (simp; omega))
set_option maxRecDepth 10000
theorem bo135 : Zea Tryz.prog 135 = true := by kernel_rfl
theorem Zgj (a : Str) (b : Str) (ha : a.length ≤ 1000) (hb : b.length ≤ 1000) : PureCt Tryz.prog 135 [.v (.string (bs a)), .v (.string (bs b))] (.i (nmOrd a b)) := by
 rw [nmOrd_ix]
 refine Zca Tryz.func135 rfl bo135 (by simp [go_sem, D.nr, nrs, nrr]) (by simp [Tryz.f135]) ?_
 unfold Tryz.f135
 simp only [Zfa]
 have ff := True.intro
 have hl := (Zmq a).2
 have hm := (Zmq b).2
 refine stp Lun ?_
 refine stp Lun ?_ (hok := by (try simp only [go_sem, ff]); all_goals (exact Zag _ ha))
 refine stp Lun ?_ (hok := by (try simp only [go_sem, ff]); all_goals (exact Zag _ hb))
 refine Zaa ?_
 refine stp Lun ?_
 refine Zda ?_
 refine lp (α := (Nat) × Nat) [5, 6] (fun ⟨k, nx⟩ => (1 ≤ k) ∧ (k ≤ (partsOf a).length + 1) ∧ (Zsx (partsOf a) (partsOf b) 1 = Zsx (partsOf a) (partsOf b) k) ∧ True) (fun ⟨k, nx⟩ => (partsOf a).length + 1 - k) (fun ⟨k, nx⟩ => [(7, .i k)]) (fun ⟨k, nx⟩ => []) (fun ⟨k, nx⟩ => nx) (1, _) (hA := ⟨iv, iv, rfl, trivial⟩) (round := ?_)
 rintro ⟨k, nx⟩ ⟨hk, hk1, hv, -⟩
 show DW _ _ _ _ { n := _, t := tab _, h := _, nx := _, e := _ }
 simp only [List.cons_append, List.nil_append]
 refine Zaa ?_
 refine stp Lun ?_
 refine cd (fun c1 => ?_) (fun c1 => ?_) (hp := rfl) (hq := rfl)
 ·
  have hk2 : k ≤ (partsOf a).length ∧ k ≤ (partsOf b).length := by simp only [Bool.and_eq_true, decide_eq_true_eq] at c1; omega
  have e1 : (((partsOf a).length : Int) - k).toNat = (partsOf a).length - k := by omega
  have e2 : (((partsOf b).length : Int) - k).toNat = (partsOf b).length - k := by omega
  have g1 : (partsOf a).length - k < (partsOf a).length := by omega
  have g2 : (partsOf b).length - k < (partsOf b).length := by omega
  have ff := And.intro @e1 (And.intro @e2 (And.intro (Zcd g1) (And.intro (Zcd g2) ff)))
  refine dw_skip ?_
  show DW _ _ _ _ _
  refine Zaa ?_
  refine Zda ?_
  refine stp Lun ?_
  refine stp Lun ?_
  refine Zaa ?_
  refine stp Lun ?_
  refine cd (fun c2 => ?_) (fun c2 => ?_) (hp := rfl) (hq := rfl)
  ·
   refine stp Lun ?_
   refine Zba ?_
   exact fin 0 (hr := by (try simp only [go_sem, ff]); all_goals (rw [hv, Zki, if_pos hk2, if_pos c2]))
  ·
   refine dw_skip ?_
   show DW _ _ _ _ _
   refine stp Lun ?_
   refine cd (fun c3 => ?_) (fun c3 => ?_) (hp := rfl) (hq := rfl)
   ·
    refine stp Lun ?_
    refine Zba ?_
    exact fin 0 (hr := by (try simp only [go_sem, ff]); all_goals (rw [hv, Zki, if_pos hk2, if_neg (by rw [c2]; simp), if_pos c3]))
   ·
    refine dw_skip ?_
    show DW _ _ _ _ _
    refine rgn Lun ?_
    show ∃ _, _
    exact rnd (k + 1, _) (h1 := ⟨iv, iv, (by (try dsimp only); rw [hv, Zki, if_pos hk2, if_neg (by rw [c2]; simp), if_neg (by rw [c3]; simp)]), trivial⟩)
 ·
  have hk2 : ¬ (k ≤ (partsOf a).length ∧ k ≤ (partsOf b).length) := by simp only [Bool.and_eq_false_iff, decide_eq_false_iff_not] at c1; omega
  refine Zja ?_
  show DW _ _ _ _ _
  refine Zaa ?_
  refine stp Lun ?_
  refine cd (fun c4 => ?_) (fun c4 => ?_)
  ·
   refine stp Lun ?_
   refine Zba ?_
   exact fin 0 (hr := by (try simp only [go_sem, ff]); all_goals (rw [hv, Zki, if_neg hk2, if_pos (by omega)]))
  ·
   refine dw_skip ?_
   show DW _ _ _ _ _
   refine Zaa ?_
   refine stp Lun ?_
   refine cd (fun c5 => ?_) (fun c5 => ?_)
   ·
    refine stp Lun ?_
    refine Zba ?_
    exact fin 0 (hr := by (try simp only [go_sem, ff]); all_goals (rw [hv, Zki, if_neg hk2, if_neg (by omega), if_pos (by omega)]))
   ·
    refine dw_skip ?_
    show DW _ _ _ _ _
    refine stp Lun ?_
    refine Zba ?_
    exact fin 0 (hr := by (try simp only [go_sem, ff]); all_goals (rw [hv, Zki, if_neg hk2, if_neg (by omega), if_neg (by omega)]))
theorem bo129 : Zea Tryz.prog 129 = true := by kernel_rfl
theorem Zdx (a : Str) (b : Str) : PureCt Tryz.prog 129 [.v (.string (bs a)), .v (.string (bs b))] (.tuple [.i (if nameOk a && nameOk b then nmCmp a b else 0), .i (if nameOk a && nameOk b then 0 else 11)]) := by
 refine Zca Tryz.func129 rfl bo129 (by simp [go_sem, D.nr, nrs, nrr]) (by simp [Tryz.f129]) ?_
 unfold Tryz.f129
 simp only [Zfa]
 have ff := True.intro
 refine stp Lun ?_
 refine stp Lun ?_ (hok := by (try simp only [go_sem, ff]); all_goals (exact Zma _))
 refine stp Lun ?_ (hok := by (try simp only [go_sem, ff]); all_goals (exact Zma _))
 refine Zaa ?_
 refine stp Lun ?_
 refine cd (fun c1 => ?_) (fun c1 => ?_) (hp := rfl)
 ·
  have e : (nameOk a && nameOk b) = false := by revert c1; cases nameOk a <;> cases nameOk b <;> simp
  refine stp Lun ?_
  refine Zba ?_
  exact fin 1 (hr := by (try simp only [go_sem, ff]); all_goals (rw [e]; rfl))
 ·
  have e : (nameOk a && nameOk b) = true := by rw [c1.1, c1.2]; rfl
  have la := Zta c1.1
  have lb := Zta c1.2
  refine dw_skip ?_
  show DW _ _ _ _ _
  refine stp Lun ?_ (hok := by (try simp only [go_sem, ff]); all_goals (exact Zgj _ _ (by omega) (by omega)))
  refine Zba ?_
  exact fin 1 (hr := by (try simp only [go_sem, ff]); all_goals (rw [e, Ztq]; rfl))
end Go.Proofs.YtmkblfajmnhccaaGreatDoor
namespace Go.Proofs.YtmkblfajmnhccaaGreatDoor
open Go.DL Go.Str Go.Rec
set_option maxRecDepth 10000
theorem bo130 : Zea Tryz.prog 130 = true := by kernel_rfl
theorem Zfh (x : Int) (lo : Int) (hi : Int) : PureCt Tryz.prog 130 [.i x, .i lo, .i hi] (.b (inR x lo hi)) := by
 refine Zca Tryz.func130 rfl bo130 (by simp [go_sem, D.nr, nrs, nrr]) (by simp [Tryz.f130]) ?_
 unfold Tryz.f130
 simp only [Zfa]
 have ff := True.intro
 refine stp Lun ?_
 refine stp Lun ?_
 refine Zba ?_
 exact fin 0 (hr := by (try simp only [go_sem, ff]); all_goals (rfl))
theorem bo169 : Zea Tryz.prog 169 = true := by kernel_rfl
theorem Zwm (x : Int) (lo : Int) (hi : Int) : PureCt Tryz.prog 169 [.v (.int .u8 x), .v (.int .u8 lo), .v (.int .u8 hi)] (.b (inR x lo hi)) := by
 refine Zca Tryz.func169 rfl bo169 (by simp [go_sem, D.nr, nrs, nrr]) (by simp [Tryz.f169]) ?_
 unfold Tryz.f169
 simp only [Zfa]
 have ff := True.intro
 refine stp Lun ?_
 refine stp Lun ?_
 refine Zba ?_
 exact fin 0 (hr := by (try simp only [go_sem, ff]); all_goals (rfl))
theorem bo124 : Zea Tryz.prog 124 = true := by kernel_rfl
theorem Zfb (x : Int) (lo : Int) (hi : Int) : PureCt Tryz.prog 124 [.i x, .i lo, .i hi] (.b (inR x lo hi)) := by
 refine Zca Tryz.func124 rfl bo124 (by simp [go_sem, D.nr, nrs, nrr]) (by simp [Tryz.f124]) ?_
 unfold Tryz.f124
 simp only [Zfa]
 have ff := True.intro
 refine stp Lun ?_
 refine stp Lun ?_
 refine Zba ?_
 exact fin 0 (hr := by (try simp only [go_sem, ff]); all_goals (rfl))
theorem bo142 : Zea Tryz.prog 142 = true := by kernel_rfl
theorem Zs8 (x : Int) : PureCt Tryz.prog 142 [.i x] (.b (x != x)) := by
 refine Zca Tryz.func142 rfl bo142 (by simp [go_sem, D.nr, nrs, nrr]) (by simp [Tryz.f142]) ?_
 unfold Tryz.f142
 simp only [Zfa]
 have ff := True.intro
 refine stp Lun ?_
 refine stp Lun ?_
 refine Zba ?_
 exact fin 0 (hr := by (try simp only [go_sem, ff]); all_goals (rfl))
theorem bo168 : Zea Tryz.prog 168 = true := by kernel_rfl
theorem Zr8 (x : Str) : PureCt Tryz.prog 168 [.v (.string (bs x))] (.b (x != x)) := by
 refine Zca Tryz.func168 rfl bo168 (by simp [go_sem, D.nr, nrs, nrr]) (by simp [Tryz.f168]) ?_
 unfold Tryz.f168
 simp only [Zfa]
 have ff := True.intro
 refine stp Lun ?_
 refine stp Lun ?_
 refine Zba ?_
 exact fin 0 (hr := by (try simp only [go_sem, ff]); all_goals (rfl))
theorem bo108 : Zea Tryz.prog 108 = true := by kernel_rfl
theorem Zwh (x : Int) (y : Int) : PureCt Tryz.prog 108 [.i x, .i y] (.i (cmpI x y)) := by
 refine Zca Tryz.func108 rfl bo108 (by simp [go_sem, D.nr, nrs, nrr]) (by simp [Tryz.f108]) ?_
 unfold Tryz.f108
 simp only [Zfa]
 have ff := True.intro
 refine stp Lun ?_
 refine stp Lun ?_ (hok := by (try simp only [go_sem, ff]); all_goals (have h := Zs8 x; simp only [bne_self_eq_false] at h; exact h))
 refine stp Lun ?_ (hok := by (try simp only [go_sem, ff]); all_goals (have h := Zs8 y; simp only [bne_self_eq_false] at h; exact h))
 refine Zaa ?_
 refine stp Lun ?_
 refine cd (fun c1 => ?_) (fun c1 => ?_) (hp := rfl)
 ·
  simp at c1
 ·
  refine dw_skip ?_
  show DW _ _ _ _ _
  refine Zaa ?_
  refine stp Lun ?_
  refine cd (fun c2 => ?_) (fun c2 => ?_) (hp := rfl)
  ·
   simp at c2
  ·
   refine dw_skip ?_
   show DW _ _ _ _ _
   refine Zaa ?_
   refine stp Lun ?_
   refine cd (fun c3 => ?_) (fun c3 => ?_)
   ·
    refine stp Lun ?_
    refine Zba ?_
    exact fin 0 (hr := by (try simp only [go_sem, ff]); all_goals (simp only [cmpI, cmpS, ltS]; first | (simp_all; done) | ((repeat' split) <;> first | rfl | omega)))
   ·
    refine dw_skip ?_
    show DW _ _ _ _ _
    refine Zaa ?_
    refine stp Lun ?_
    refine cd (fun c4 => ?_) (fun c4 => ?_)
    ·
     refine stp Lun ?_
     refine Zba ?_
     exact fin 0 (hr := by (try simp only [go_sem, ff]); all_goals (simp only [cmpI, cmpS, ltS]; first | (simp_all; done) | ((repeat' split) <;> first | rfl | omega)))
    ·
     refine dw_skip ?_
     show DW _ _ _ _ _
     refine stp Lun ?_
     refine Zba ?_
     exact fin 0 (hr := by (try simp only [go_sem, ff]); all_goals (simp only [cmpI, cmpS, ltS]; first | (simp_all; done) | ((repeat' split) <;> first | rfl | omega)))
theorem bo148 : Zea Tryz.prog 148 = true := by kernel_rfl
theorem Zdz (x : Str) (y : Str) : PureCt Tryz.prog 148 [.v (.string (bs x)), .v (.string (bs y))] (.i (cmpS x y)) := by
 refine Zca Tryz.func148 rfl bo148 (by simp [go_sem, D.nr, nrs, nrr]) (by simp [Tryz.f148]) ?_
 unfold Tryz.f148
 simp only [Zfa]
 have ff := True.intro
 refine stp Lun ?_
 refine stp Lun ?_ (hok := by (try simp only [go_sem, ff]); all_goals (have h := Zr8 x; simp only [bne_self_eq_false] at h; exact h))
 refine stp Lun ?_ (hok := by (try simp only [go_sem, ff]); all_goals (have h := Zr8 y; simp only [bne_self_eq_false] at h; exact h))
 refine Zaa ?_
 refine stp Lun ?_
 refine cd (fun c1 => ?_) (fun c1 => ?_) (hp := rfl)
 ·
  simp at c1
 ·
  refine dw_skip ?_
  show DW _ _ _ _ _
  refine Zaa ?_
  refine stp Lun ?_
  refine cd (fun c2 => ?_) (fun c2 => ?_) (hp := rfl)
  ·
   simp at c2
  ·
   refine dw_skip ?_
   show DW _ _ _ _ _
   refine Zaa ?_
   refine stp Lun ?_
   refine cd (fun c3 => ?_) (fun c3 => ?_)
   ·
    refine stp Lun ?_
    refine Zba ?_
    exact fin 0 (hr := by (try simp only [go_sem, ff]); all_goals (simp only [cmpI, cmpS, ltS]; first | (simp_all; done) | ((repeat' split) <;> first | rfl | omega)))
   ·
    refine dw_skip ?_
    show DW _ _ _ _ _
    refine Zaa ?_
    refine stp Lun ?_
    refine cd (fun c4 => ?_) (fun c4 => ?_)
    ·
     refine stp Lun ?_
     refine Zba ?_
     exact fin 0 (hr := by (try simp only [go_sem, ff]); all_goals (simp only [cmpI, cmpS, ltS]; first | (simp_all; done) | ((repeat' split) <;> first | rfl | omega)))
    ·
     refine dw_skip ?_
     show DW _ _ _ _ _
     refine stp Lun ?_
     refine Zba ?_
     exact fin 0 (hr := by (try simp only [go_sem, ff]); all_goals (simp only [cmpI, cmpS, ltS]; first | (simp_all; done) | ((repeat' split) <;> first | rfl | omega)))
theorem bo136 : Zea Tryz.prog 136 = true := by kernel_rfl
theorem Ztt (s : Str) (p : Str) : PureCt Tryz.prog 136 [.v (.string (bs s)), .v (.string (bs p))] (.b (hasPre s p)) := by
 refine Zca Tryz.func136 rfl bo136 (by simp [go_sem, D.nr, nrs, nrr]) (by simp [Tryz.f136]) ?_
 unfold Tryz.f136
 simp only [Zfa]
 have ff := True.intro
 refine stp Lun ?_
 refine stp Lun ?_
 refine Zba ?_
 exact fin 0 (hr := by (try simp only [go_sem, ff]); all_goals (have e : decide ((p.length : Int) ≤ s.length) = decide (p.length ≤ s.length) := decide_eq_decide.2 (by omega); rw [hasPre, e]))
theorem bo97 : Zea Tryz.prog 97 = true := by kernel_rfl
theorem Zpm (s : Str) (p : Str) : PureCt Tryz.prog 97 [.v (.string (bs s)), .v (.string (bs p))] (.b (hasPre s p)) := by
 refine Zca Tryz.func97 rfl bo97 (by simp [go_sem, D.nr, nrs, nrr]) (by simp [Tryz.f97]) ?_
 unfold Tryz.f97
 simp only [Zfa]
 have ff := True.intro
 refine stp Lun ?_
 refine stp Lun ?_ (hok := by (try simp only [go_sem, ff]); all_goals (first | exact ok0 | (apply Ztt <;> omega) | (intros; apply Ztt <;> omega)))
 refine Zba ?_
 exact fin 0 (hr := by (try simp only [go_sem, ff]); all_goals (rfl))
theorem bo131 : Zea Tryz.prog 131 = true := by kernel_rfl
theorem Zom (s : Str) : PureCt Tryz.prog 131 [.v (.string (bs s))] (.b (wildB s)) := by
 refine Zca Tryz.func131 rfl bo131 (by simp [go_sem, D.nr, nrs, nrr]) (by simp [Tryz.f131]) ?_
 unfold Tryz.f131
 simp only [Zfa]
 have ff := True.intro
 refine stp Lun ?_
 refine stp Lun ?_ (hok := by (try simp only [go_sem, ff]); all_goals (first | exact ok0 | (apply Zpm <;> omega) | (intros; apply Zpm <;> omega)))
 refine Zba ?_
 exact fin 0 (hr := by (try simp only [go_sem, ff]); all_goals (rw [Zru]))
theorem bo126 : Zea Tryz.prog 126 = true := by kernel_rfl
theorem Zec (s : Str) : PureCt Tryz.prog 126 [.v (.string (bs s))] (.b (wildB s)) := by
 refine Zca Tryz.func126 rfl bo126 (by simp [go_sem, D.nr, nrs, nrr]) (by simp [Tryz.f126]) ?_
 unfold Tryz.f126
 simp only [Zfa]
 have ff := True.intro
 refine stp Lun ?_
 refine stp Lun ?_
 refine Zba ?_
 exact fin 0 (hr := by (try simp only [go_sem, ff]); all_goals (rw [wildB]; congr 2; rw [Bool.eq_iff_iff]; simp only [Bool.and_eq_true, decide_eq_true_eq, beq_iff_eq]; omega))
theorem bo152 : Zea Tryz.prog 152 = true := by kernel_rfl
theorem Zl9 (s : Str) : PureCt Tryz.prog 152 [.v (.string (bs s))] (.b (freeB s)) := by
 rw [freeB]
 refine Zca Tryz.func152 rfl bo152 (by simp [go_sem, D.nr, nrs, nrr]) (by simp [Tryz.f152]) ?_
 unfold Tryz.f152
 simp only [Zfa]
 have ff := True.intro
 have e1 : ((s.length:Int) - 1).toNat = s.length - 1 := by omega
 have ff := And.intro @e1 ff
 refine stp Lun ?_
 refine Zaa ?_
 have hin : inR (s.length : Int) 1 40 = true → (1:Int) ≤ s.length ∧ (s.length : Int) ≤ 40 := by intro h; simp only [inR, Bool.and_eq_true, decide_eq_true_eq] at h; exact h
 refine stp Lun ?_ (hok := by (try simp only [go_sem, ff]); all_goals (refine ⟨⟨⟨Zfh _ _ _, fun h => by have := hin h; omega⟩, fun h => ?_⟩, fun h => ?_⟩ <;> (rw [Bool.or_eq_false_iff, Bool.not_eq_false'] at h; have := hin h.1; omega)))
 refine cd (fun c1 => ?_) (fun c1 => ?_)
 ·
  try simp only [inR, Bool.and_eq_true, Bool.and_eq_false_iff, decide_eq_true_eq, decide_eq_false_iff_not] at c1
  refine stp Lun ?_
  refine Zba ?_
  exact fin 0 (hr := by (try simp only [go_sem, ff]); all_goals ((repeat' split) <;> first | rfl | (exfalso; omega)))
 ·
  try simp only [inR, Bool.and_eq_true, Bool.and_eq_false_iff, decide_eq_true_eq, decide_eq_false_iff_not] at c1
  refine dw_skip ?_
  show DW _ _ _ _ _
  refine Zaa ?_
  refine stp Lun ?_
  refine Zda ?_
  refine lp (α := (Nat) × Nat) [0, 23] (fun ⟨k, nx⟩ => (k ≤ s.length) ∧ (Zva s.length (Zqh s) 0 = Zva s.length (Zqh s) k) ∧ True) (fun ⟨k, nx⟩ => s.length - k) (fun ⟨k, nx⟩ => [(24, .i k)]) (fun ⟨k, nx⟩ => []) (fun ⟨k, nx⟩ => nx) (0, _) (hA := ⟨iv, rfl, trivial⟩) (round := ?_)
  rintro ⟨k, nx⟩ ⟨hk, hv, -⟩
  show DW _ _ _ _ { n := _, t := tab _, h := _, nx := _, e := _ }
  simp only [List.cons_append, List.nil_append]
  refine stp Lun ?_
  refine Zaa ?_
  refine cd (fun c2 => ?_) (fun c2 => ?_) (hp := rfl)
  ·
   have hk2 : k < s.length := by simpa using c2
   refine dw_skip ?_
   show DW _ _ _ _ _
   refine Zaa ?_
   refine Zda ?_
   refine stp Lun ?_
   refine stp Lun ?_
   refine stp Lun ?_ (hok := by (try simp only [go_sem, ff]); all_goals (first | done | (simp only [Zwm, and_true, implies_true]; done) | ((repeat' (with_reducible apply And.intro)) <;> first | exact Zwm _ _ _ | (intros; exact Zwm _ _ _) | (intros; simp_all; done))))
   refine cd (fun c3 => ?_) (fun c3 => ?_)
   ·
    refine stp Lun ?_
    refine Zba ?_
    exact fin 0 (hr := by (try simp only [go_sem, ff]); all_goals (have h8 : Zqh s k = false := (by simp only [Zqh, Zum, Bool.or_eq_false_iff, Bool.and_eq_false_iff, decide_eq_false_iff_not]; (try simp only [inR, Bool.and_eq_true, Bool.and_eq_false_iff, decide_eq_true_eq, decide_eq_false_iff_not] at c3); omega); rw [hv, Zeb, if_pos hk2, h8]; (repeat' split) <;> rfl))
   ·
    refine dw_skip ?_
    show DW _ _ _ _ _
    refine rgn Lun ?_
    show ∃ _, _
    exact rnd (k + 1, _) (h1 := ⟨iv, (by (try dsimp only); have h8 : Zqh s k = true := (by simp only [Zqh, Zum, Bool.or_eq_true, Bool.and_eq_true, decide_eq_true_eq]; (try simp only [inR, Bool.and_eq_true, Bool.and_eq_false_iff, decide_eq_true_eq, decide_eq_false_iff_not] at c3); omega); rw [hv, Zeb, if_pos hk2, h8]; rfl), trivial⟩)
  ·
   refine Zja ?_
   show DW _ _ _ _ _
   refine stp Lun ?_
   refine Zba ?_
   exact fin 0 (hr := by (try simp only [go_sem, ff]); all_goals (rw [hv, Zeb, if_neg (by omega), if_neg (by omega), if_neg (by omega), if_neg (by omega), if_neg (by omega)]))
theorem bo151 : Zea Tryz.prog 151 = true := by kernel_rfl
theorem rtext_ct (s : Str) : PureCt Tryz.prog 151 [.v (.string (bs s))] (.b (freeB s)) := by
 rw [freeB]
 refine Zca Tryz.func151 rfl bo151 (by simp [go_sem, D.nr, nrs, nrr]) (by simp [Tryz.f151]) ?_
 unfold Tryz.f151
 simp only [Zfa]
 have ff := True.intro
 have e1 : ((s.length:Int) - 1).toNat = s.length - 1 := by omega
 have ff := And.intro @e1 ff
 refine stp Lun ?_
 refine stp Lun ?_
 refine Zaa ?_
 refine stp Lun ?_
 refine cd (fun c1 => ?_) (fun c1 => ?_)
 ·
  refine stp Lun ?_
  refine Zba ?_
  exact fin 0 (hr := by (try simp only [go_sem, ff]); all_goals ((repeat' split) <;> first | rfl | (exfalso; omega)))
 ·
  refine dw_skip ?_
  show DW _ _ _ _ _
  refine Zaa ?_
  refine stp Lun ?_
  refine Zda ?_
  refine lp (α := (Nat) × Nat) [0, 3] (fun ⟨k, nx⟩ => (k ≤ s.length) ∧ (Zva s.length (Zqh s) 0 = Zva s.length (Zqh s) k) ∧ True) (fun ⟨k, nx⟩ => s.length - k) (fun ⟨k, nx⟩ => [(4, .i k)]) (fun ⟨k, nx⟩ => []) (fun ⟨k, nx⟩ => nx) (0, _) (hA := ⟨iv, rfl, trivial⟩) (round := ?_)
  rintro ⟨k, nx⟩ ⟨hk, hv, -⟩
  show DW _ _ _ _ { n := _, t := tab _, h := _, nx := _, e := _ }
  simp only [List.cons_append, List.nil_append]
  refine Zaa ?_
  refine stp Lun ?_
  refine cd (fun c2 => ?_) (fun c2 => ?_) (hp := rfl)
  ·
   have hk2 : k < s.length := by simpa using c2
   refine dw_skip ?_
   show DW _ _ _ _ _
   refine Zaa ?_
   refine Zda ?_
   refine stp Lun ?_
   refine stp Lun ?_
   refine cd (fun c3 => ?_) (fun c3 => ?_)
   ·
    refine stp Lun ?_
    refine Zba ?_
    exact fin 0 (hr := by (try simp only [go_sem, ff]); all_goals (have h8 : Zqh s k = false := (by simp only [Zqh, Zum, Bool.or_eq_false_iff, Bool.and_eq_false_iff, decide_eq_false_iff_not]; (try simp only [inR, Bool.and_eq_true, Bool.and_eq_false_iff, decide_eq_true_eq, decide_eq_false_iff_not] at c3); omega); rw [hv, Zeb, if_pos hk2, h8]; (repeat' split) <;> rfl))
   ·
    refine dw_skip ?_
    show DW _ _ _ _ _
    refine rgn Lun ?_
    show ∃ _, _
    exact rnd (k + 1, _) (h1 := ⟨iv, (by (try dsimp only); have h8 : Zqh s k = true := (by simp only [Zqh, Zum, Bool.or_eq_true, Bool.and_eq_true, decide_eq_true_eq]; (try simp only [inR, Bool.and_eq_true, Bool.and_eq_false_iff, decide_eq_true_eq, decide_eq_false_iff_not] at c3); omega); rw [hv, Zeb, if_pos hk2, h8]; rfl), trivial⟩)
  ·
   refine Zja ?_
   show DW _ _ _ _ _
   refine stp Lun ?_
   refine Zba ?_
   exact fin 0 (hr := by (try simp only [go_sem, ff]); all_goals (rw [hv, Zeb, if_neg (by omega), if_neg (by omega), if_neg (by omega), if_neg (by omega), if_neg (by omega)]))
theorem bo128 : Zea Tryz.prog 128 = true := by kernel_rfl
theorem Zie (a : Dat) (b : Dat) : PureCt Tryz.prog 128 [.agg a.d, .agg b.d] (.b (less a b)) := by
 rw [less]
 refine Zca Tryz.func128 rfl bo128 (by simp [go_sem, D.nr, nrs, nrr]) (by simp [Tryz.f128]) ?_
 unfold Tryz.f128
 simp only [Zfa]
 have ff := True.intro
 refine stp Lun ?_
 refine Zaa ?_
 refine stp Lun ?_
 refine cd (fun c1 => ?_) (fun c1 => ?_) (hp := rfl) (hq := rfl)
 ·
  refine stp Lun ?_
  refine Zba ?_
  exact fin 0 (hr := by (try simp only [go_sem, ff]); all_goals (rw [if_pos c1]; rfl))
 ·
  refine dw_skip ?_
  show DW _ _ _ _ _
  refine Zaa ?_
  refine stp Lun ?_
  refine cd (fun c2 => ?_) (fun c2 => ?_) (hp := rfl) (hq := rfl)
  ·
   refine stp Lun ?_
   refine Zba ?_
   exact fin 0 (hr := by (try simp only [go_sem, ff]); all_goals (rw [if_neg (by rw [c1]; simp), if_pos c2]))
  ·
   refine dw_skip ?_
   show DW _ _ _ _ _
   refine stp Lun ?_
   refine Zba ?_
   exact fin 0 (hr := by (try simp only [go_sem, ff]); all_goals (rw [if_neg (by rw [c1]; simp), if_neg (by rw [c2]; simp)]))
set_option maxRecDepth 10000
theorem bo147 : Zea Tryz.prog 147 = true := by kernel_rfl
theorem Zv3 (l : List Int) : PureCt Tryz.prog 147 [.list false (l.map iR)] (.i (orFrom l 0)) := by
 refine Zca Tryz.func147 rfl bo147 (by simp [go_sem, D.nr, nrs, nrr]) (by simp [Tryz.f147]) ?_
 unfold Tryz.f147
 simp only [Zfa]
 have ff := True.intro
 refine dw_len 0 rfl fun hlen => ?_
 simp only [List.length_map, maxLen] at hlen
 refine stp Lun ?_
 refine stp Lun ?_
 refine Zaa ?_
 refine stp Lun ?_
 refine Zda ?_
 refine lp (α := (Nat) × Nat) [3, 6, 7] (fun ⟨k, nx⟩ => (k ≤ l.length) ∧ (orFrom l 0 = orFrom l k) ∧ True) (fun ⟨k, nx⟩ => l.length - k) (fun ⟨k, nx⟩ => [(8, .i k)]) (fun ⟨k, nx⟩ => []) (fun ⟨k, nx⟩ => nx) (0, _) (hA := ⟨iv, rfl, trivial⟩) (round := ?_)
 rintro ⟨k, nx⟩ ⟨hk, hv, -⟩
 show DW _ _ _ _ { n := _, t := tab _, h := _, nx := _, e := _ }
 simp only [List.cons_append, List.nil_append]
 refine stp Lun ?_
 refine Zaa ?_
 refine cd (fun c1 => ?_) (fun c1 => ?_) (hp := rfl)
 ·
  have hk2 : k < l.length := by simpa using c1
  have ff := And.intro (getD_iR hk2) ff
  refine dw_skip ?_
  show DW _ _ _ _ _
  refine Zaa ?_
  refine Zda ?_
  refine stp Lun ?_
  refine stp Lun ?_
  refine cd (fun c2 => ?_) (fun c2 => ?_) (hp := rfl) (hq := rfl)
  ·
   refine stp Lun ?_
   refine Zba ?_
   exact fin 0 (hr := by (try simp only [go_sem, ff]); all_goals (rw [hv, Zig, if_pos hk2, if_pos c2]))
  ·
   refine dw_skip ?_
   show DW _ _ _ _ _
   refine rgn Lun ?_
   show ∃ _, _
   exact rnd (k + 1, _) (h1 := ⟨iv, (by (try dsimp only); rw [hv, Zig, if_pos hk2, if_neg (by rw [c2]; simp)]), trivial⟩)
 ·
  refine Zja ?_
  show DW _ _ _ _ _
  refine stp Lun ?_
  refine Zba ?_
  exact fin 0 (hr := by (try simp only [go_sem, ff]); all_goals (rw [hv, Zig, if_neg (by omega)]))
theorem bo133 : Zea Tryz.prog 133 = true := by kernel_rfl
theorem Zju (a : Dat) (b : Dat) : PureCt Tryz.prog 133 [.agg a.d, .agg b.d] (.i (datC a b)) := by
 refine Zca Tryz.func133 rfl bo133 (by simp [go_sem, D.nr, nrs, nrr]) (by simp [Tryz.f133]) ?_
 unfold Tryz.f133
 simp only [Zfa]
 have ff := True.intro
 refine stp Lun ?_
 refine stp Lun ?_ (hok := by (try simp only [go_sem, ff]); all_goals (first | done | ((repeat' (with_reducible apply And.intro)) <;> first | exact Zdz _ _ | exact Zwh _ _ | exact Zv3 [_, _, _] | omega)))
 refine Zba ?_
 exact fin 0 (hr := by (try simp only [go_sem, ff]); all_goals (rw [← Zit]; rfl))
theorem bo125 : Zea Tryz.prog 125 = true := by kernel_rfl
theorem Zws (k : Int) : PureCt Tryz.prog 125 [.i k] (.b (singleB k)) := by
 refine Zca Tryz.func125 rfl bo125 (by simp [go_sem, D.nr, nrs, nrr]) (by simp [Tryz.f125]) ?_
 unfold Tryz.f125
 simp only [Zfa]
 have ff := True.intro
 refine stp Lun ?_
 refine stp Lun ?_
 refine Zba ?_
 exact fin 0 (hr := by (try simp only [go_sem, ff]); all_goals (first | rfl | (unfold singleB; simp)))
theorem bo132 : Zea Tryz.prog 132 = true := by kernel_rfl
theorem Zkw (r : Rule) (d : Dat) (hr : r.even = true → 0 ≤ r.n0) : PureCt Tryz.prog 132 [.agg r.d, .agg d.d] (.b (datOk r d)) := by
 refine Zca Tryz.func132 rfl bo132 (by simp [go_sem, D.nr, nrs, nrr]) (by simp [Tryz.f132]) ?_
 unfold Tryz.f132
 simp only [Zfa]
 have ff := True.intro
 refine stp Lun ?_
 refine Zaa ?_
 refine stp Lun ?_ (hok := by (try simp only [go_sem, ff]); all_goals (first | done | ((repeat' (with_reducible apply And.intro)) <;> first | exact Zfh _ _ _ | (intros; exact Zfh _ _ _) | (intro h; simp only [Bool.and_eq_true, Bool.not_eq_true', Bool.or_eq_false_iff, Bool.not_eq_false', inR_iff] at h; have := hr h.2; omega) | (intros; simp_all; done))))
 refine cd (fun c1 => ?_) (fun c1 => ?_)
 ·
  refine stp Lun ?_
  refine Zba ?_
  exact fin 0 (hr := by (try simp only [go_sem, ff]); all_goals (rcases c1 with (h | h) | ⟨h1, h2⟩ <;> simp [datOk, *]))
 ·
  refine dw_skip ?_
  show DW _ _ _ _ _
  refine Zaa ?_
  refine stp Lun ?_
  refine Zda ?_
  refine stp Lun ?_
  refine cd (fun c2 => ?_) (fun c2 => ?_)
  ·
   refine stp Lun ?_ (hok := by (try simp only [go_sem, ff]); all_goals (first | done | ((repeat' (with_reducible apply And.intro)) <;> first | exact Zxc _ | (intros; exact Zxc _) | exact Zom _ | (intros; exact Zom _))))
   refine Zba ?_
   exact fin 0 (hr := by (try simp only [go_sem, ff]); all_goals (obtain ⟨⟨h1, h2⟩, h3⟩ := c1; rcases h3 with h3 | h3 <;> simp [datOk, Zvp, *]))
  ·
   refine stp Lun ?_
   refine cd (fun c3 => ?_) (fun c3 => ?_)
   ·
    refine stp Lun ?_ (hok := by (try simp only [go_sem, ff]); all_goals (exact Zxc _))
    refine Zba ?_
    exact fin 0 (hr := by (try simp only [go_sem, ff]); all_goals (obtain ⟨⟨h1, h2⟩, h3⟩ := c1; rcases h3 with h3 | h3 <;> simp [datOk, Zvp, *]))
   ·
    refine stp Lun ?_
    refine cd (fun c4 => ?_) (fun c4 => ?_)
    ·
     refine stp Lun ?_ (hok := by (try simp only [go_sem, ff]); all_goals (exact Zl9 _))
     refine Zba ?_
     exact fin 0 (hr := by (try simp only [go_sem, ff]); all_goals (obtain ⟨⟨h1, h2⟩, h3⟩ := c1; rcases h3 with h3 | h3 <;> simp [datOk, Zvp, *]))
    ·
     refine dw_skip ?_
     show DW _ _ _ _ _
     refine stp Lun ?_
     refine Zba ?_
     exact fin 0 (hr := by (try simp only [go_sem, ff]); all_goals (obtain ⟨⟨h1, h2⟩, h3⟩ := c1; rcases h3 with h3 | h3 <;> simp [datOk, Zvp, *] <;> cases d.t <;> rfl))
theorem bo127 : Zea Tryz.prog 127 = true := by kernel_rfl
theorem Zjx (k : Int) (d : Dat) : PureCt Tryz.prog 127 [.i k, .agg d.d] (.b (rDatOk k d)) := by
 refine Zca Tryz.func127 rfl bo127 (by simp [go_sem, D.nr, nrs, nrr]) (by simp [Tryz.f127]) ?_
 unfold Tryz.f127
 simp only [Zfa]
 have ff := True.intro
 refine stp Lun ?_
 refine Zaa ?_
 refine stp Lun ?_
 refine Zda ?_
 refine stp Lun ?_
 refine cd (fun c1 => ?_) (fun c1 => ?_)
 ·
  refine stp Lun ?_ (hok := by (try simp only [go_sem, ff]); all_goals (first | done | ((repeat' (with_reducible apply And.intro)) <;> first | exact Zfb _ _ _ | (intros; exact Zfb _ _ _) | exact Zma _ | (intros; exact Zma _) | exact Zec _ | (intros; exact Zec _) | (intro h; simp only [Bool.and_eq_true, inR_iff] at h; omega) | omega)))
  refine Zba ?_
  exact fin 0 (hr := by (try simp only [go_sem, ff]); all_goals (simp [rDatOk, *]))
 ·
  refine Zaa ?_
  refine stp Lun ?_
  refine cd (fun c2 => ?_) (fun c2 => ?_)
  ·
   refine dw_skip ?_
   show DW _ _ _ _ _
   refine cd (fun c3 => ?_) (fun c3 => ?_)
   ·
    refine stp Lun ?_ (hok := by (try simp only [go_sem, ff]); all_goals (first | done | ((repeat' (with_reducible apply And.intro)) <;> first | exact Zfb _ _ _ | (intros; exact Zfb _ _ _) | exact Zma _ | (intros; exact Zma _) | exact Zec _ | (intros; exact Zec _) | (intro h; simp only [Bool.and_eq_true, inR_iff] at h; omega) | omega)))
    refine Zba ?_
    exact fin 0 (hr := by (try simp only [go_sem, ff]); all_goals (simp [rDatOk, *]))
   ·
    exact absurd c2 c3
  ·
   refine rgn Lun ?_
   show DW _ _ _ _ _
   refine cd (fun c4 => ?_) (fun c4 => ?_)
   ·
    refine stp Lun ?_ (hok := by (try simp only [go_sem, ff]); all_goals (first | done | ((repeat' (with_reducible apply And.intro)) <;> first | exact Zfb _ _ _ | (intros; exact Zfb _ _ _) | exact Zma _ | (intros; exact Zma _) | exact Zec _ | (intros; exact Zec _) | (intro h; simp only [Bool.and_eq_true, inR_iff] at h; omega) | omega)))
    refine Zba ?_
    exact fin 0 (hr := by (try simp only [go_sem, ff]); all_goals (simp [rDatOk, *]))
   ·
    refine stp Lun ?_
    refine cd (fun c5 => ?_) (fun c5 => ?_)
    ·
     refine stp Lun ?_ (hok := by (try simp only [go_sem, ff]); all_goals (first | done | ((repeat' (with_reducible apply And.intro)) <;> first | exact Zfb _ _ _ | (intros; exact Zfb _ _ _) | exact Zma _ | (intros; exact Zma _) | exact Zec _ | (intros; exact Zec _) | (intro h; simp only [Bool.and_eq_true, inR_iff] at h; omega) | omega)))
     refine Zba ?_
     exact fin 0 (hr := by (try simp only [go_sem, ff]); all_goals (simp [rDatOk, *]))
    ·
     refine stp Lun ?_
     refine cd (fun c6 => ?_) (fun c6 => ?_)
     ·
      refine stp Lun ?_ (hok := by (try simp only [go_sem, ff]); all_goals (first | done | exact rtext_ct _))
      refine Zba ?_
      exact fin 0 (hr := by (try simp only [go_sem, ff]); all_goals (simp [rDatOk, *]))
     ·
      refine Zaa ?_
      refine stp Lun ?_
      refine cd (fun c7 => ?_) (fun c7 => ?_)
      ·
       refine dw_skip ?_
       show DW _ _ _ _ _
       refine cd (fun c8 => ?_) (fun c8 => ?_)
       ·
        refine stp Lun ?_ (hok := by (try simp only [go_sem, ff]); all_goals (first | done | ((repeat' (with_reducible apply And.intro)) <;> first | exact Zfb _ _ _ | (intros; exact Zfb _ _ _) | exact Zma _ | (intros; exact Zma _) | exact Zec _ | (intros; exact Zec _) | (intro h; simp only [Bool.and_eq_true, inR_iff] at h; omega) | omega)))
        refine Zba ?_
        exact fin 0 (hr := by (try simp only [go_sem, ff]); all_goals (simp [rDatOk, *]))
       ·
        exact absurd c7 c8
      ·
       refine rgn Lun ?_
       show DW _ _ _ _ _
       refine cd (fun c9 => ?_) (fun c9 => ?_)
       ·
        refine stp Lun ?_ (hok := by (try simp only [go_sem, ff]); all_goals (first | done | ((repeat' (with_reducible apply And.intro)) <;> first | exact Zfb _ _ _ | (intros; exact Zfb _ _ _) | exact Zma _ | (intros; exact Zma _) | exact Zec _ | (intros; exact Zec _) | (intro h; simp only [Bool.and_eq_true, inR_iff] at h; omega) | omega)))
        refine Zba ?_
        exact fin 0 (hr := by (try simp only [go_sem, ff]); all_goals (simp [rDatOk, *]))
       ·
        refine stp Lun ?_
        refine cd (fun c10 => ?_) (fun c10 => ?_)
        ·
         refine stp Lun ?_ (hok := by (try simp only [go_sem, ff]); all_goals (first | done | ((repeat' (with_reducible apply And.intro)) <;> first | exact Zfb _ _ _ | (intros; exact Zfb _ _ _) | exact Zma _ | (intros; exact Zma _) | exact Zec _ | (intros; exact Zec _) | (intro h; simp only [Bool.and_eq_true, inR_iff] at h; omega) | omega)))
         refine Zba ?_
         exact fin 0 (hr := by (try simp only [go_sem, ff]); all_goals (simp [rDatOk, *]))
        ·
         refine dw_skip ?_
         show DW _ _ _ _ _
         refine stp Lun ?_
         refine Zba ?_
         exact fin 0 (hr := by (try simp only [go_sem, ff]); all_goals (simp [rDatOk, *]))
end Go.Proofs.YtmkblfajmnhccaaGreatDoor
namespace Go.Proofs.YtmkblfajmnhccaaGreatDoor
open Go.DL Go.Str Go.Rec Go.Cmp
set_option maxRecDepth 10000
theorem rule_ldc {k : Nat} (h1 : 1 ≤ k) (h8 : k ≤ 8) : ∃ rest : List D, ∀ hh, ldc Tryz.prog (.v (.pointer (some ⟨0, k * 8, none⟩))) hh = (Zzb k).d ++ rest := by
 refine ⟨(rulesTab.drop (k * 8 + 8)).map D.v, fun hh => ?_⟩
 have : k = 1 ∨ k = 2 ∨ k = 3 ∨ k = 4 ∨ k = 5 ∨ k = 6 ∨ k = 7 ∨ k = 8 := by omega
 rcases this with e | e | e | e | e | e | e | e <;> subst e <;> rfl
theorem bo88 : Zea Tryz.prog 88 = true := by kernel_rfl
theorem Zgc (s : RSet) : PureCt Tryz.prog 88 [.agg s.d] (.b (setOk s)) := by
 refine Zca Tryz.func88 rfl bo88 (by simp [go_sem, D.nr, nrs, nrr]) (by simp [Tryz.f88]) ?_
 unfold Tryz.f88
 simp only [Zfa]
 have ff := True.intro
 refine stp Lun ?_
 refine Zaa ?_
 refine stp Lun ?_ (hok := by (try simp only [go_sem, ff]); all_goals (first | done | ((repeat' (with_reducible apply And.intro)) <;> first | exact Zxc _ | (intros; exact Zxc _) | exact Zfh _ _ _ | (intros; exact Zfh _ _ _) | (intros; simp_all; done) | omega)))
 refine cd (fun c1 => ?_) (fun c1 => ?_)
 ·
  refine stp Lun ?_
  refine Zba ?_
  exact fin 0 (hr := by (try simp only [go_sem, ff]); all_goals (rcases c1 with (h | h) | h <;> simp [setOk, h]))
 ·
  refine dw_skip ?_
  show DW _ _ _ _ _
  refine Zaa ?_
  refine stp Lun ?_ (hok := by (try simp only [go_sem, ff]); all_goals (exact Zfh _ _ _))
  refine cd (fun c2 => ?_) (fun c2 => ?_)
  ·
   refine stp Lun ?_
   refine Zba ?_
   exact fin 0 (hr := by (try simp only [go_sem, ff]); all_goals (simp [setOk, c2]))
  ·
   have hty := inR_iff.1 c1.1.2
   obtain ⟨rest, hld⟩ := rule_ldc (k := s.ty.toNat) (by omega) (by omega)
   have ff := And.intro @hld ff
   refine dw_skip ?_
   show DW _ _ _ _ _
   refine stp Lun ?_ (hok := by (try simp only [go_sem, ff]); all_goals (first | done | omega | ((repeat' (with_reducible apply And.intro)) <;> first | omega | rfl)))
   refine Zaa ?_
   refine stp Lun ?_ (hok := by (try simp only [go_sem, ff]); all_goals (first | done | ((repeat' (with_reducible apply And.intro)) <;> first | exact Zom _ | (intros; exact Zom _) | (intros; simp_all; done) | (intros; by_cases hq : (Zzb s.ty.toNat).single = true <;> simp_all))))
   refine cd (fun c3 => ?_) (fun c3 => ?_)
   ·
    refine stp Lun ?_
    refine Zba ?_
    exact fin 0 (hr := by (try simp only [go_sem, ff]); all_goals (rcases c3 with ⟨h1, h2⟩ | ⟨h1, h2⟩ <;> simp [setOk, h1, h2]))
   ·
    refine dw_skip ?_
    show DW _ _ _ _ _
    refine Zaa ?_
    refine stp Lun ?_
    refine Zda ?_
    refine lp (α := (Nat) × Nat) [1, 3, 50, 51] (fun ⟨k, nx⟩ => (k ≤ s.data.length) ∧ (27 < nx) ∧ (Zva s.data.length (Zuj s.ty.toNat s.data) 0 = Zva s.data.length (Zuj s.ty.toNat s.data) k) ∧ True) (fun ⟨k, nx⟩ => s.data.length - k) (fun ⟨k, nx⟩ => [(52, .i k)]) (fun ⟨k, nx⟩ => [(0, ⟨31, [s.d]⟩), (27, ⟨144, [(Zzb s.ty.toNat).d]⟩)]) (fun ⟨k, nx⟩ => nx) (0, _) (hA := ⟨iv, iv, rfl, trivial⟩) (round := ?_)
    rintro ⟨k, nx⟩ ⟨hk, hx, hv, -⟩
    show DW _ _ _ _ { n := _, t := tab _, h := _, nx := _, e := _ }
    simp only [List.cons_append, List.nil_append]
    have n0 : 0 < nx := by omega
    have ff := And.intro @hx (And.intro @n0 ff)
    refine stp Lun ?_
    refine Zaa ?_
    refine cd (fun c4 => ?_) (fun c4 => ?_) (hp := rfl)
    ·
     have hk2 : k < s.data.length := by simpa using c4
     have ff := And.intro (Zua hk2) ff
     refine dw_skip ?_
     show DW _ _ _ _ _
     refine Zaa ?_
     refine Zda ?_
     refine stp Lun ?_
     have hl8 := inR_iff.1 c2
     have e1 : ((k:Int) - 1).toNat = k - 1 := by omega
     have hk1 : k - 1 < s.data.length := by omega
     have ff := And.intro @e1 (And.intro (Zua hk1) ff)
     refine stp Lun ?_ (hok := by (try simp only [go_sem, ff]); all_goals (first | done | ((repeat' (with_reducible apply And.intro)) <;> first | exact Zkw _ _ (Zax _) | (intros; exact Zkw _ _ (Zax _)) | exact Zju _ _ | (intros; exact Zju _ _) | (intros; simp_all; done) | (intro h; simp only [Bool.and_eq_true, decide_eq_true_eq] at h; have := h.2; omega) | skip)))
     refine cd (fun c5 => ?_) (fun c5 => ?_)
     ·
      refine stp Lun ?_
      refine Zba ?_
      exact fin 0 (hr := by (try simp only [go_sem, ff]); all_goals (rw [Zzu c1 c2 c3, hv, Zeb, if_pos hk2, dat_no c5]; rfl))
     ·
      refine dw_skip ?_
      show DW _ _ _ _ _
      refine rgn Lun ?_
      show ∃ _, _
      exact rnd (k + 1, _) (h1 := ⟨iv, iv, (by (try dsimp only); rw [hv, Zeb, if_pos hk2, Yka c5]; rfl), trivial⟩)
    ·
     refine Zja ?_
     show DW _ _ _ _ _
     refine stp Lun ?_
     refine Zba ?_
     exact fin 0 (hr := by (try simp only [go_sem, ff]); all_goals (rw [Zzu c1 c2 c3, hv, Zeb, if_neg (by omega)]))
set_option maxRecDepth 10000
theorem bo79 : Zea Tryz.prog 79 = true := by kernel_rfl
theorem Zve (s : RSet) : PureCt Tryz.prog 79 [.agg s.d] (.b (setOk s)) := by
 refine Zca Tryz.func79 rfl bo79 (by simp [go_sem, D.nr, nrs, nrr]) (by simp [Tryz.f79]) ?_
 unfold Tryz.f79
 simp only [Zfa]
 have ff := True.intro
 refine stp Lun ?_
 refine stp Lun ?_
 refine Zaa ?_
 refine stp Lun ?_ (hok := by (try simp only [go_sem, ff]); all_goals (first | done | ((repeat' (with_reducible apply And.intro)) <;> first | exact Zma _ | (intros; exact Zma _) | exact Zfb _ _ _ | (intros; exact Zfb _ _ _) | exact Zws _ | (intros; exact Zws _) | (intros; simp_all; done) | skip)))
 refine cd (fun c1 => ?_) (fun c1 => ?_)
 ·
  refine stp Lun ?_
  refine Zba ?_
  exact fin 0 (hr := by (try simp only [go_sem, ff]); all_goals (rw [set_no_r c1]))
 ·
  refine dw_skip ?_
  show DW _ _ _ _ _
  refine Zaa ?_
  refine stp Lun ?_ (hok := by (try simp only [go_sem, ff]); all_goals (first | done | ((repeat' (with_reducible apply And.intro)) <;> first | exact Zec _ | (intros; exact Zec _) | (intros; simp_all; done) | skip)))
  refine cd (fun c2 => ?_) (fun c2 => ?_) (hp := rfl) (hq := rfl)
  ·
   rw [wild4 _ c1.1.1.1.2] at c2
   try simp only [decide_eq_true_eq, decide_eq_false_iff_not, Bool.or_eq_true, Bool.and_eq_true, Bool.or_eq_false_iff, Bool.not_eq_true', Bool.not_eq_false', Bool.and_eq_false_iff, beq_iff_eq, beq_eq_false_iff_ne, bne_iff_ne, bne_eq_false_iff_eq, ne_eq] at c2
   refine stp Lun ?_
   refine Zba ?_
   exact fin 0 (hr := by (try simp only [go_sem, ff]); all_goals (rw [set_no_w c2]))
  ·
   rw [wild4 _ c1.1.1.1.2] at c2
   try simp only [decide_eq_true_eq, decide_eq_false_iff_not, Bool.or_eq_true, Bool.and_eq_true, Bool.or_eq_false_iff, Bool.not_eq_true', Bool.not_eq_false', Bool.and_eq_false_iff, beq_iff_eq, beq_eq_false_iff_ne, bne_iff_ne, bne_eq_false_iff_eq, ne_eq] at c2
   refine dw_skip ?_
   show DW _ _ _ _ _
   refine Zaa ?_
   refine stp Lun ?_
   refine Zda ?_
   refine lp (α := (Nat) × Nat) [1, 3] (fun ⟨k, nx⟩ => (k ≤ s.data.length) ∧ (0 < nx) ∧ (Zva s.data.length (Zuj s.ty.toNat s.data) 0 = Zva s.data.length (Zuj s.ty.toNat s.data) k) ∧ True) (fun ⟨k, nx⟩ => s.data.length - k) (fun ⟨k, nx⟩ => [(4, .i k)]) (fun ⟨k, nx⟩ => [(0, ⟨31, [s.d]⟩)]) (fun ⟨k, nx⟩ => nx) (0, _) (hA := ⟨iv, iv, rfl, trivial⟩) (round := ?_)
   rintro ⟨k, nx⟩ ⟨hk, hx, hv, -⟩
   show DW _ _ _ _ { n := _, t := tab _, h := _, nx := _, e := _ }
   simp only [List.cons_append, List.nil_append]
   have ff := And.intro @hx ff
   refine Zaa ?_
   refine stp Lun ?_
   refine cd (fun c3 => ?_) (fun c3 => ?_) (hp := rfl)
   ·
    have hk2 : k < s.data.length := by simpa using c3
    have ff := And.intro (Zua hk2) ff
    refine dw_skip ?_
    show DW _ _ _ _ _
    refine Zaa ?_
    refine Zda ?_
    have hl8 := inR_iff.1 c1.1.2
    have e1 : ((k:Int) - 1).toNat = k - 1 := by omega
    have hk1 : k - 1 < s.data.length := by omega
    have ff := And.intro @e1 (And.intro (Zua hk1) ff)
    refine stp Lun ?_ (hok := by (try simp only [go_sem, ff]); all_goals (first | done | ((repeat' (with_reducible apply And.intro)) <;> first | exact Zjx _ _ | (intros; exact Zjx _ _) | exact Zie _ _ | (intros; exact Zie _ _) | (intros; simp_all; done) | (intro h; simp only [Bool.and_eq_true, decide_eq_true_eq] at h; have := h.2; omega) | skip)))
    refine cd (fun c4 => ?_) (fun c4 => ?_)
    ·
     refine stp Lun ?_
     refine Zba ?_
     exact fin 0 (hr := by (try simp only [go_sem, ff]); all_goals (rw [Zts c1 c2, hv, Zeb, if_pos hk2, dat_no_r c1.1.1.1.2 c4]; rfl))
    ·
     refine dw_skip ?_
     show DW _ _ _ _ _
     refine rgn Lun ?_
     show ∃ _, _
     exact rnd (k + 1, _) (h1 := ⟨iv, iv, (by (try dsimp only); rw [hv, Zeb, if_pos hk2, Yja c1.1.1.1.2 c4]; rfl), trivial⟩)
   ·
    refine Zja ?_
    show DW _ _ _ _ _
    refine stp Lun ?_
    refine Zba ?_
    exact fin 0 (hr := by (try simp only [go_sem, ff]); all_goals (rw [Zts c1 c2, hv, Zeb, if_neg (by omega)]))
theorem bo86 : Zea Tryz.prog 86 = true := by kernel_rfl
theorem Zsl (a : RSet) (b : RSet) : PureCt Tryz.prog 86 [.agg a.d, .agg b.d] (.i (rOrd a b)) := by
 refine Zca Tryz.func86 rfl bo86 (by simp [go_sem, D.nr, nrs, nrr]) (by simp [Tryz.f86]) ?_
 unfold Tryz.f86
 simp only [Zfa]
 have ff := True.intro
 refine stp Lun ?_
 refine stp Lun ?_ (hok := by (try simp only [go_sem, ff]); all_goals (exact Zdx _ _))
 refine Zaa ?_
 refine stp Lun ?_
 refine cd (fun c1 => ?_) (fun c1 => ?_)
 ·
  refine stp Lun ?_
  refine Zba ?_
  exact fin 0 (hr := by (try simp only [go_sem, ff]); all_goals (simp only [rOrd, Zub, nmC, Go.Rec.cmpI]; simp_all <;> (repeat' split) <;> omega))
 ·
  refine dw_skip ?_
  show DW _ _ _ _ _
  refine Zaa ?_
  refine stp Lun ?_
  refine cd (fun c2 => ?_) (fun c2 => ?_)
  ·
   refine stp Lun ?_
   refine Zba ?_
   exact fin 0 (hr := by (try simp only [go_sem, ff]); all_goals (simp only [rOrd, Zub, nmC, Go.Rec.cmpI]; simp_all <;> (repeat' split) <;> omega))
  ·
   refine dw_skip ?_
   show DW _ _ _ _ _
   refine Zaa ?_
   refine stp Lun ?_
   refine cd (fun c3 => ?_) (fun c3 => ?_)
   ·
    refine stp Lun ?_
    refine Zba ?_
    exact fin 0 (hr := by (try simp only [go_sem, ff]); all_goals (simp only [rOrd, Zub, nmC, Go.Rec.cmpI]; simp_all <;> (repeat' split) <;> omega))
   ·
    refine dw_skip ?_
    show DW _ _ _ _ _
    refine stp Lun ?_
    refine Zba ?_
    exact fin 0 (hr := by (try simp only [go_sem, ff]); all_goals (simp only [rOrd, Zub, nmC, Go.Rec.cmpI]; simp_all <;> (repeat' split) <;> omega))
theorem bo85 : Zea Tryz.prog 85 = true := by kernel_rfl
theorem Zxs (a : RSet) (b : RSet) (ha : a.data.length ≤ 100000) : PureCt Tryz.prog 85 [.agg a.d, .agg b.d] (.b (sameB a b)) := by
 refine Zca Tryz.func85 rfl bo85 (by simp [go_sem, D.nr, nrs, nrr]) (by simp [Tryz.f85]) ?_
 unfold Tryz.f85
 simp only [Zfa]
 have ff := True.intro
 refine stp Lun ?_
 refine Zaa ?_
 refine stp Lun ?_
 refine cd (fun c1 => ?_) (fun c1 => ?_)
 ·
  refine stp Lun ?_
  refine Zba ?_
  exact fin 0 (hr := by (try simp only [go_sem, ff]); all_goals (rw [sameB_no c1]))
 ·
  refine dw_skip ?_
  show DW _ _ _ _ _
  refine Zaa ?_
  refine stp Lun ?_
  refine Zda ?_
  refine lp (α := (Nat) × Nat) [2, 3] (fun ⟨k, nx⟩ => (k ≤ a.data.length) ∧ (1 < nx) ∧ (∀ i, i < k → a.data[i]! = b.data[i]!) ∧ True) (fun ⟨k, nx⟩ => a.data.length - k) (fun ⟨k, nx⟩ => [(5, .i k)]) (fun ⟨k, nx⟩ => [(0, ⟨31, [a.d]⟩), (1, ⟨31, [b.d]⟩)]) (fun ⟨k, nx⟩ => nx) (0, _) (hA := ⟨iv, iv, (by first | (intro i hi; omega) | (dsimp only; intro i hi; omega)), trivial⟩) (round := ?_)
  rintro ⟨k, nx⟩ ⟨hk, hx, hv, -⟩
  show DW _ _ _ _ { n := _, t := tab _, h := _, nx := _, e := _ }
  simp only [List.cons_append, List.nil_append]
  have n0 : 0 < nx := by omega
  have ff := And.intro @hx (And.intro @n0 ff)
  refine Zaa ?_
  refine stp Lun ?_
  refine cd (fun c2 => ?_) (fun c2 => ?_) (hp := rfl)
  ·
   have hk2 : k < a.data.length := by simpa using c2
   have hk3 : k < b.data.length := by have := c1.2; omega
   have ff := And.intro (Zua hk2) (And.intro (Zua hk3) ff)
   refine dw_skip ?_
   show DW _ _ _ _ _
   refine Zaa ?_
   refine Zda ?_
   refine stp Lun ?_
   refine cd (fun c3 => ?_) (fun c3 => ?_) (hp := rfl) (hq := rfl)
   ·
    refine stp Lun ?_
    refine Zba ?_
    exact fin 0 (hr := by (try simp only [go_sem, ff]); all_goals (rw [sameB_at (dat_diff c3)]))
   ·
    refine dw_skip ?_
    show DW _ _ _ _ _
    refine rgn Lun ?_
    show ∃ _, _
    exact rnd (k + 1, _) (h1 := ⟨iv, iv, (by (try dsimp only); intro i hi; by_cases e : i = k; subst e; exact dat_same c3; exact hv i (by omega)), trivial⟩)
  ·
   refine Zja ?_
   show DW _ _ _ _ _
   refine stp Lun ?_
   refine Zba ?_
   exact fin 0 (hr := by (try simp only [go_sem, ff]); all_goals (rw [Zs7 c1 fun i hi => hv i (by omega)]))
end Go.Proofs.YtmkblfajmnhccaaGreatDoor
namespace Go.Proofs.YtmkblfajmnhccaaGreatDoor
open Go.DL Go.Str Go.Rec Go.Cmp Go.Zon
set_option maxRecDepth 10000
theorem bo139 : Zea Tryz.prog 139 = true := by kernel_rfl
theorem Zq5 (s : Str) (p : Str) (hs : s.length ≤ 1000000) : PureCt Tryz.prog 139 [.v (.string (bs s)), .v (.string (bs p))] (.b (hasSuf s p)) := by
 refine Zca Tryz.func139 rfl bo139 (by simp [go_sem, D.nr, nrs, nrr]) (by simp [Tryz.f139]) ?_
 unfold Tryz.f139
 simp only [Zfa]
 have ff := True.intro
 have e1 : ((s.length : Int) - p.length).toNat = s.length - p.length := by omega
 have ff := And.intro @e1 ff
 refine stp Lun ?_
 refine stp Lun ?_
 refine Zba ?_
 exact fin 0 (hr := by (try simp only [go_sem, ff]); all_goals (simp [hasSuf]))
theorem bo104 : Zea Tryz.prog 104 = true := by kernel_rfl
theorem Zry (s : Str) (p : Str) (hs : s.length ≤ 1000000) : PureCt Tryz.prog 104 [.v (.string (bs s)), .v (.string (bs p))] (.b (hasSuf s p)) := by
 refine Zca Tryz.func104 rfl bo104 (by simp [go_sem, D.nr, nrs, nrr]) (by simp [Tryz.f104]) ?_
 unfold Tryz.f104
 simp only [Zfa]
 have ff := True.intro
 refine stp Lun ?_
 refine stp Lun ?_ (hok := by (try simp only [go_sem, ff]); all_goals (exact Zq5 _ _ hs))
 refine Zba ?_
 exact fin 0 (hr := by (try simp only [go_sem, ff]); all_goals (rfl))
theorem bo70 : Zea Tryz.prog 70 = true := by kernel_rfl
theorem Zzl (s : Str) (z : Str) : PureCt Tryz.prog 70 [.v (.string (bs s)), .v (.string (bs z))] (.tuple [.b (underV s z), .i (if nameOk s && nameOk z then 0 else 11)]) := by
 refine Zca Tryz.func70 rfl bo70 (by simp [go_sem, D.nr, nrs, nrr]) (by simp [Tryz.f70]) ?_
 unfold Tryz.f70
 simp only [Zfa]
 have ff := True.intro
 refine stp Lun ?_
 refine Zaa ?_
 refine stp Lun ?_ (hok := by (try simp only [go_sem, ff]); all_goals (first | done | ((repeat' (with_reducible apply And.intro)) <;> first | exact Zjh _ | (intros; exact Zjh _) | skip)))
 refine cd (fun c1 => ?_) (fun c1 => ?_)
 ·
  refine stp Lun ?_
  refine Zba ?_
  exact fin 1 (hr := by (try simp only [go_sem, ff]); all_goals (first | (simp_all [underV, under]; done) | (simp; simp only [underV, under]; grind)))
 ·
  refine dw_skip ?_
  show DW _ _ _ _ _
  refine Zaa ?_
  refine stp Lun ?_
  refine cd (fun c2 => ?_) (fun c2 => ?_)
  ·
   refine stp Lun ?_
   refine Zba ?_
   exact fin 1 (hr := by (try simp only [go_sem, ff]); all_goals (first | (simp_all [underV, under]; done) | (simp; simp only [underV, under]; grind)))
  ·
   refine dw_skip ?_
   show DW _ _ _ _ _
   have hn := Zta c1.1
   have hm := Zta c1.2
   have e1 : ((s.length : Int) - z.length - 1).toNat = s.length - z.length - 1 := by omega
   have ff := And.intro @e1 ff
   refine stp Lun ?_ (hok := by (try simp only [go_sem, ff]); all_goals (first | done | ((repeat' (with_reducible apply And.intro)) <;> first | exact Zry _ _ (by omega) | (intros; exact Zry _ _ (by omega)) | (intro h; simp at h; omega) | skip)))
   refine Zba ?_
   exact fin 1 (hr := by (try simp only [go_sem, ff]); all_goals (first | (simp_all [underV, under]; done) | (simp; simp only [underV, under]; grind)))
theorem bo89 : Zea Tryz.prog 89 = true := by kernel_rfl
theorem Zol (s : Str) (hs : s.length ≤ 1000) : PureCt Tryz.prog 89 [.v (.string (bs s))] (.b (wild1 s)) := by
 refine Zca Tryz.func89 rfl bo89 (by simp [go_sem, D.nr, nrs, nrr]) (by simp [Tryz.f89]) ?_
 unfold Tryz.f89
 simp only [Zfa]
 have ff := True.intro
 refine stp Lun ?_
 refine stp Lun ?_ (hok := by (try simp only [go_sem, ff]); all_goals (first | exact ok0 | (apply Zag <;> omega) | (intros; apply Zag <;> omega)))
 rcases hps : partsOf s with _ | ⟨p0, ps⟩
 ·
  have ff := And.intro @hps ff
  refine stp Lun ?_
  refine Zba ?_
  exact fin 0 (hr := by (try simp only [go_sem, ff]); all_goals (simp [wild1, hps]))
 ·
  have ff := And.intro @hps ff
  refine stp Lun ?_
  refine Zba ?_
  exact fin 0 (hr := by (try simp only [go_sem, ff]); all_goals (simp [wild1, hps]))
theorem bo96 : Zea Tryz.prog 96 = true := by kernel_rfl
theorem Ziw (a : Str) (s : Int) (b : Str) (t : Int) : PureCt Tryz.prog 96 [.v (.string (bs a)), .i s, .v (.string (bs b)), .i t] (.i (qC ⟨a, s⟩ ⟨b, t⟩)) := by
 refine Zca Tryz.func96 rfl bo96 (by simp [go_sem, D.nr, nrs, nrr]) (by simp [Tryz.f96]) ?_
 unfold Tryz.f96
 simp only [Zfa]
 have ff := True.intro
 refine stp Lun ?_
 refine Zaa ?_
 refine stp Lun ?_
 refine cd (fun c1 => ?_) (fun c1 => ?_)
 ·
  refine stp Lun ?_ (hok := by (try simp only [go_sem, ff]); all_goals (exact Zvk _ _))
  refine stp Lun ?_
  refine Zba ?_
  exact fin 0 (hr := by (try simp only [go_sem, ff]); all_goals (simp [qC, *]))
 ·
  refine dw_skip ?_
  show DW _ _ _ _ _
  refine stp Lun ?_ (hok := by (try simp only [go_sem, ff]); all_goals (first | exact ok0 | (apply Zwh <;> omega) | (intros; apply Zwh <;> omega)))
  refine Zba ?_
  exact fin 0 (hr := by (try simp only [go_sem, ff]); all_goals (simp [qC, *]))
theorem bo98 : Zea Tryz.prog 98 = true := by kernel_rfl
theorem Zb1 (t : Int) (a : Bool) : PureCt Tryz.prog 98 [.i t, .b a] (.b (fits t a)) := by
 refine Zca Tryz.func98 rfl bo98 (by simp [go_sem, D.nr, nrs, nrr]) (by simp [Tryz.f98]) ?_
 unfold Tryz.f98
 simp only [Zfa]
 have ff := True.intro
 refine stp Lun ?_
 refine Zaa ?_
 refine stp Lun ?_
 refine Zda ?_
 refine Zaa ?_
 refine stp Lun ?_
 refine cd (fun c1 => ?_) (fun c1 => ?_)
 ·
  refine dw_skip ?_
  show DW _ _ _ _ _
  refine cd (fun c2 => ?_) (fun c2 => ?_)
  ·
   refine stp Lun ?_
   refine Zba ?_
   exact fin 0 (hr := by (try simp only [go_sem, ff]); all_goals (simp_all [fits]))
  ·
   refine Zaa ?_
   refine stp Lun ?_
   refine cd (fun c3 => ?_) (fun c3 => ?_)
   ·
    refine dw_skip ?_
    show DW _ _ _ _ _
    refine cd (fun c4 => ?_) (fun c4 => ?_)
    ·
     refine stp Lun ?_
     refine Zba ?_
     exact fin 0 (hr := by (try simp only [go_sem, ff]); all_goals (simp_all [fits]))
    ·
     refine dw_skip ?_
     show DW _ _ _ _ _
     refine stp Lun ?_
     refine Zba ?_
     exact fin 0 (hr := by (try simp only [go_sem, ff]); all_goals (simp_all [fits]))
   ·
    refine rgn Lun ?_
    show DW _ _ _ _ _
    refine cd (fun c5 => ?_) (fun c5 => ?_)
    ·
     refine stp Lun ?_
     refine Zba ?_
     exact fin 0 (hr := by (try simp only [go_sem, ff]); all_goals (simp_all [fits]))
    ·
     refine dw_skip ?_
     show DW _ _ _ _ _
     refine stp Lun ?_
     refine Zba ?_
     exact fin 0 (hr := by (try simp only [go_sem, ff]); all_goals (simp_all [fits]))
 ·
  refine rgn Lun ?_
  show DW _ _ _ _ _
  refine cd (fun c6 => ?_) (fun c6 => ?_)
  ·
   refine stp Lun ?_
   refine Zba ?_
   exact fin 0 (hr := by (try simp only [go_sem, ff]); all_goals (simp_all [fits]))
  ·
   refine Zaa ?_
   refine stp Lun ?_
   refine cd (fun c7 => ?_) (fun c7 => ?_)
   ·
    refine dw_skip ?_
    show DW _ _ _ _ _
    refine cd (fun c8 => ?_) (fun c8 => ?_)
    ·
     refine stp Lun ?_
     refine Zba ?_
     exact fin 0 (hr := by (try simp only [go_sem, ff]); all_goals (simp_all [fits]))
    ·
     refine dw_skip ?_
     show DW _ _ _ _ _
     refine stp Lun ?_
     refine Zba ?_
     exact fin 0 (hr := by (try simp only [go_sem, ff]); all_goals (simp_all [fits]))
   ·
    refine rgn Lun ?_
    show DW _ _ _ _ _
    refine cd (fun c9 => ?_) (fun c9 => ?_)
    ·
     refine stp Lun ?_
     refine Zba ?_
     exact fin 0 (hr := by (try simp only [go_sem, ff]); all_goals (simp_all [fits]))
    ·
     refine dw_skip ?_
     show DW _ _ _ _ _
     refine stp Lun ?_
     refine Zba ?_
     exact fin 0 (hr := by (try simp only [go_sem, ff]); all_goals (simp_all [fits]))
theorem bo90 : Zea Tryz.prog 90 = true := by kernel_rfl
theorem Zys (t : Int) (a : Bool) : PureCt Tryz.prog 90 [.i t, .b a] (.b (fits t a)) := by
 refine Zca Tryz.func90 rfl bo90 (by simp [go_sem, D.nr, nrs, nrr]) (by simp [Tryz.f90]) ?_
 unfold Tryz.f90
 simp only [Zfa]
 have ff := True.intro
 refine stp Lun ?_
 refine Zaa ?_
 refine stp Lun ?_
 refine cd (fun c1 => ?_) (fun c1 => ?_)
 ·
  refine stp Lun ?_
  refine Zba ?_
  exact fin 0 (hr := by (try simp only [go_sem, ff]); all_goals (simp; simp only [fits]; grind))
 ·
  refine dw_skip ?_
  show DW _ _ _ _ _
  refine stp Lun ?_
  refine Zba ?_
  exact fin 0 (hr := by (try simp only [go_sem, ff]); all_goals (simp; simp only [fits]; grind))
set_option maxRecDepth 10000
theorem bo21 : Zea Tryz.prog 21 = true := by kernel_rfl
theorem Zib (s : Str) (z : Str) (hs : s.length ≤ 1000) (hz : z.length ≤ 1000) : PureCt Tryz.prog 21 [.v (.string (bs s)), .v (.string (bs z))] (.b (inB s z)) := by
 refine Zca Tryz.func21 rfl bo21 (by simp [go_sem, D.nr, nrs, nrr]) (by simp [Tryz.f21]) ?_
 unfold Tryz.f21
 simp only [Zfa]
 have ff := True.intro
 refine stp Lun ?_
 refine stp Lun ?_ (hok := by (try simp only [go_sem, ff]); all_goals (exact Zag _ hs))
 refine stp Lun ?_ (hok := by (try simp only [go_sem, ff]); all_goals (exact Zag _ hz))
 refine Zaa ?_
 refine stp Lun ?_
 refine cd (fun c1 => ?_) (fun c1 => ?_)
 ·
  refine stp Lun ?_
  refine Zba ?_
  exact fin 0 (hr := by (try simp only [go_sem, ff]); all_goals (simp [inB]; omega))
 ·
  have hp := Zht s
  have hq := Zht z
  refine dw_skip ?_
  show DW _ _ _ _ _
  refine Zaa ?_
  refine stp Lun ?_
  refine Zda ?_
  refine lp (α := (Nat) × Nat) [5, 6] (fun ⟨k, nx⟩ => (k ≤ (partsOf z).length) ∧ (Zva (partsOf z).length (inAt (partsOf s) (partsOf z)) 0 = Zva (partsOf z).length (inAt (partsOf s) (partsOf z)) k) ∧ True) (fun ⟨k, nx⟩ => (partsOf z).length - k) (fun ⟨k, nx⟩ => [(7, .i k)]) (fun ⟨k, nx⟩ => []) (fun ⟨k, nx⟩ => nx) (0, _) (hA := ⟨iv, rfl, trivial⟩) (round := ?_)
  rintro ⟨k, nx⟩ ⟨hk, hv, -⟩
  show DW _ _ _ _ { n := _, t := tab _, h := _, nx := _, e := _ }
  simp only [List.cons_append, List.nil_append]
  refine Zaa ?_
  refine stp Lun ?_
  refine cd (fun c2 => ?_) (fun c2 => ?_) (hp := rfl)
  ·
   have hk2 : k < (partsOf z).length := by simpa using c2
   have hk3 : (partsOf s).length - (partsOf z).length + k < (partsOf s).length := by omega
   have e1 : (((partsOf s).length : Int) - (partsOf z).length + k).toNat = (partsOf s).length - (partsOf z).length + k := by omega
   have ff := And.intro @e1 (And.intro (Zcd hk2) (And.intro (Zcd hk3) ff))
   refine dw_skip ?_
   show DW _ _ _ _ _
   refine Zaa ?_
   refine Zda ?_
   refine stp Lun ?_
   refine cd (fun c3 => ?_) (fun c3 => ?_)
   ·
    refine stp Lun ?_
    refine Zba ?_
    exact fin 0 (hr := by (try simp only [go_sem, ff]); all_goals (have hF : (inAt (partsOf s) (partsOf z)) k = false := (by simp only [inAt]; grind); simp only [inB]; rw [hv, Zpa hk2 hF]; try simp))
   ·
    refine dw_skip ?_
    show DW _ _ _ _ _
    refine rgn Lun ?_
    show ∃ _, _
    have h8 : (inAt (partsOf s) (partsOf z)) k = true := by simp only [inAt]; grind
    exact rnd (k + 1, _) (h1 := ⟨iv, (by first | (rw [hv, Zga hk2 h8]) | (dsimp only; rw [hv, Zga hk2 h8])), trivial⟩)
  ·
   refine Zja ?_
   show DW _ _ _ _ _
   refine stp Lun ?_
   refine Zba ?_
   exact fin 0 (hr := by (try simp only [go_sem, ff]); all_goals (simp only [inB]; rw [hv, Zra (by omega)]; simp; omega))
theorem bo99 : Zea Tryz.prog 99 = true := by kernel_rfl
theorem Ze4 (l : List RSig) (a : Str) : PureCt Tryz.prog 99 [.list false (l.map RSig.d), .v (.string (bs a))] (.b (sigsOk l a)) := by
 refine Zca Tryz.func99 rfl bo99 (by simp [go_sem, D.nr, nrs, nrr]) (by simp [Tryz.f99]) ?_
 unfold Tryz.f99
 simp only [Zfa]
 have ff := True.intro
 refine stp Lun ?_
 refine Zaa ?_
 refine stp Lun ?_
 refine cd (fun c1 => ?_) (fun c1 => ?_)
 ·
  refine stp Lun ?_
  refine Zba ?_
  exact fin 0 (hr := by (try simp only [go_sem, ff]); all_goals (simp [sigsOk]; omega))
 ·
  refine dw_skip ?_
  show DW _ _ _ _ _
  refine Zaa ?_
  refine stp Lun ?_
  refine Zda ?_
  refine lp (α := (Nat) × Nat) [0, 1, 10, 11] (fun ⟨k, nx⟩ => (k ≤ l.length) ∧ (Zva l.length (Zei a l) 0 = Zva l.length (Zei a l) k) ∧ True) (fun ⟨k, nx⟩ => l.length - k) (fun ⟨k, nx⟩ => [(12, .i k)]) (fun ⟨k, nx⟩ => []) (fun ⟨k, nx⟩ => nx) (0, _) (hA := ⟨iv, rfl, trivial⟩) (round := ?_)
  rintro ⟨k, nx⟩ ⟨hk, hv, -⟩
  show DW _ _ _ _ { n := _, t := tab _, h := _, nx := _, e := _ }
  simp only [List.cons_append, List.nil_append]
  refine stp Lun ?_
  refine Zaa ?_
  refine cd (fun c2 => ?_) (fun c2 => ?_) (hp := rfl)
  ·
   have hk2 : k < l.length := by simpa using c2
   have h0 : 0 < l.length := by omega
   have hk1 : k - 1 < l.length := by omega
   have e1 : ((k:Int) - 1).toNat = k - 1 := by omega
   have ff := And.intro (Zvg hk2) (And.intro (Zvg h0) (And.intro (Zvg hk1) (And.intro @e1 ff)))
   refine dw_skip ?_
   show DW _ _ _ _ _
   refine Zaa ?_
   refine Zda ?_
   refine stp Lun ?_
   refine Zaa ?_
   refine stp Lun ?_
   refine cd (fun c3 => ?_) (fun c3 => ?_)
   ·
    refine stp Lun ?_
    refine Zba ?_
    exact fin 0 (hr := by (try simp only [go_sem, ff]); all_goals (have hF : (Zei a l) k = false := (by simp only [Zei, inR]; grind); simp only [sigsOk]; rw [hv, Zpa hk2 hF]; try simp))
   ·
    refine dw_skip ?_
    show DW _ _ _ _ _
    refine Zaa ?_
    refine stp Lun ?_
    refine cd (fun c4 => ?_) (fun c4 => ?_)
    ·
     refine stp Lun ?_
     refine Zba ?_
     exact fin 0 (hr := by (try simp only [go_sem, ff]); all_goals (have hF : (Zei a l) k = false := (by simp only [Zei, inR]; grind); simp only [sigsOk]; rw [hv, Zpa hk2 hF]; try simp))
    ·
     refine dw_skip ?_
     show DW _ _ _ _ _
     refine stp Lun ?_
     refine cd (fun c5 => ?_) (fun c5 => ?_)
     ·
      refine stp Lun ?_
      refine Zba ?_
      exact fin 0 (hr := by (try simp only [go_sem, ff]); all_goals (have hF : (Zei a l) k = false := (by simp only [Zei, inR]; grind); simp only [sigsOk]; rw [hv, Zpa hk2 hF]; try simp))
     ·
      refine dw_skip ?_
      show DW _ _ _ _ _
      refine rgn Lun ?_
      show ∃ _, _
      have h8 : (Zei a l) k = true := by simp only [Zei, inR]; grind
      exact rnd (k + 1, _) (h1 := ⟨iv, (by first | (rw [hv, Zga hk2 h8]) | (dsimp only; rw [hv, Zga hk2 h8])), trivial⟩)
  ·
   refine Zja ?_
   show DW _ _ _ _ _
   refine stp Lun ?_
   refine Zba ?_
   exact fin 0 (hr := by (try simp only [go_sem, ff]); all_goals (simp only [sigsOk]; rw [hv, Zra (by omega)]; simp; omega))
theorem bo93 : Zea Tryz.prog 93 = true := by kernel_rfl
theorem Zt2 (l : List RSig) (a : Str) : PureCt Tryz.prog 93 [.list false (l.map RSig.d), .v (.string (bs a))] (.b (sigsOk l a)) := by
 refine Zca Tryz.func93 rfl bo93 (by simp [go_sem, D.nr, nrs, nrr]) (by simp [Tryz.f93]) ?_
 unfold Tryz.f93
 simp only [Zfa]
 have ff := True.intro
 refine stp Lun ?_
 refine Zaa ?_
 refine stp Lun ?_
 refine cd (fun c1 => ?_) (fun c1 => ?_)
 ·
  refine stp Lun ?_
  refine Zba ?_
  exact fin 0 (hr := by (try simp only [go_sem, ff]); all_goals (simp [sigsOk]; omega))
 ·
  refine dw_skip ?_
  show DW _ _ _ _ _
  refine Zaa ?_
  refine stp Lun ?_
  refine Zda ?_
  refine lp (α := (Nat) × Nat) [0, 1] (fun ⟨k, nx⟩ => (k ≤ l.length) ∧ (Zva l.length (Zei a l) 0 = Zva l.length (Zei a l) k) ∧ True) (fun ⟨k, nx⟩ => l.length - k) (fun ⟨k, nx⟩ => [(5, .i k)]) (fun ⟨k, nx⟩ => []) (fun ⟨k, nx⟩ => nx) (0, _) (hA := ⟨iv, rfl, trivial⟩) (round := ?_)
  rintro ⟨k, nx⟩ ⟨hk, hv, -⟩
  show DW _ _ _ _ { n := _, t := tab _, h := _, nx := _, e := _ }
  simp only [List.cons_append, List.nil_append]
  refine Zaa ?_
  refine stp Lun ?_
  refine cd (fun c2 => ?_) (fun c2 => ?_) (hp := rfl)
  ·
   have hk2 : k < l.length := by simpa using c2
   have h0 : 0 < l.length := by omega
   have hk1 : k - 1 < l.length := by omega
   have e1 : ((k:Int) - 1).toNat = k - 1 := by omega
   have ff := And.intro (Zvg hk2) (And.intro (Zvg h0) (And.intro (Zvg hk1) (And.intro @e1 ff)))
   refine dw_skip ?_
   show DW _ _ _ _ _
   refine Zaa ?_
   refine Zda ?_
   refine stp Lun ?_
   refine Zaa ?_
   refine stp Lun ?_
   refine cd (fun c3 => ?_) (fun c3 => ?_)
   ·
    refine stp Lun ?_
    refine Zba ?_
    exact fin 0 (hr := by (try simp only [go_sem, ff]); all_goals (have hF : (Zei a l) k = false := (by simp only [Zei, inR]; grind); simp only [sigsOk]; rw [hv, Zpa hk2 hF]; try simp))
   ·
    refine dw_skip ?_
    show DW _ _ _ _ _
    refine stp Lun ?_
    refine cd (fun c4 => ?_) (fun c4 => ?_)
    ·
     refine stp Lun ?_
     refine Zba ?_
     exact fin 0 (hr := by (try simp only [go_sem, ff]); all_goals (have hF : (Zei a l) k = false := (by simp only [Zei, inR]; grind); simp only [sigsOk]; rw [hv, Zpa hk2 hF]; try simp))
    ·
     refine dw_skip ?_
     show DW _ _ _ _ _
     refine rgn Lun ?_
     show ∃ _, _
     have h8 : (Zei a l) k = true := by simp only [Zei, inR]; grind
     exact rnd (k + 1, _) (h1 := ⟨iv, (by first | (rw [hv, Zga hk2 h8]) | (dsimp only; rw [hv, Zga hk2 h8])), trivial⟩)
  ·
   refine Zja ?_
   show DW _ _ _ _ _
   refine stp Lun ?_
   refine Zba ?_
   exact fin 0 (hr := by (try simp only [go_sem, ff]); all_goals (simp only [sigsOk]; rw [hv, Zra (by omega)]; simp; omega))
set_option maxRecDepth 10000
theorem Zrh {l : List Sgd} {q : Qst} {i j : Nat} (hv : findIx l q = Zlz (fun k => qC l[k]!.q q) i j) (h : i < j) : (qC l[(i + j) / 2]!.q q < 0 → findIx l q = Zlz (fun k => qC l[k]!.q q) ((i + j) / 2 + 1) j) ∧ (¬ qC l[(i + j) / 2]!.q q < 0 → findIx l q = Zlz (fun k => qC l[k]!.q q) i ((i + j) / 2)) := by
 rw [Zcl, if_pos h] at hv
 exact ⟨fun h2 => by rw [if_pos h2] at hv; exact hv, fun h2 => by rw [if_neg h2] at hv; exact hv⟩
theorem bo95 : Zea Tryz.prog 95 = true := by kernel_rfl
theorem Zeh (s : Sgd) (q : Qst) : PureCt Tryz.prog 95 [.agg s.d, .agg q.d] (.i (qC s.q q)) := by
 refine Zca Tryz.func95 rfl bo95 (by simp [go_sem, D.nr, nrs, nrr]) (by simp [Tryz.f95]) ?_
 unfold Tryz.f95
 simp only [Zfa]
 have ff := True.intro
 refine stp Lun ?_
 refine stp Lun ?_ (hok := by (try simp only [go_sem, ff]); all_goals (exact Ziw _ _ _ _))
 refine Zba ?_
 exact fin 0 (hr := by (try simp only [go_sem, ff]); all_goals (rfl))
theorem bo94 : Zea Tryz.prog 94 = true := by kernel_rfl
theorem Zl6 (l : List Sgd) (q : Qst) (hl : l.length ≤ 1000000) : PureCt Tryz.prog 94 [.list false (l.map Sgd.d), .agg q.d, .fn (.func 95) [] []] (.tuple [.i (findIx l q), .b (findOk l q)]) := by
 refine Zca Tryz.func94 rfl bo94 (by simp [go_sem, D.nr, nrs, nrr]) (by simp [Tryz.f94]) ?_
 unfold Tryz.f94
 simp only [Zfa]
 have ff := True.intro
 refine stp Lun ?_
 refine stp Lun ?_
 refine stp Lun ?_
 refine Zaa ?_
 refine Zda ?_
 refine lp (α := (Nat) × (Nat) × Nat) [0, 2, 4, 8] (fun ⟨i, j, nx⟩ => (i ≤ j) ∧ (j ≤ l.length) ∧ (0 < nx) ∧ (findIx l q = Zlz (fun k => qC l[k]!.q q) i j) ∧ True) (fun ⟨i, j, nx⟩ => j - i) (fun ⟨i, j, nx⟩ => [(9, .i i), (10, .i j)]) (fun ⟨i, j, nx⟩ => [(0, ⟨58, [q.d]⟩)]) (fun ⟨i, j, nx⟩ => nx) (0, l.length, _) (hA := ⟨iv, iv, iv, rfl, trivial⟩) (round := ?_)
 rintro ⟨i, j, nx⟩ ⟨hij, hj, hx, hv, -⟩
 show DW _ _ _ _ { n := _, t := tab _, h := _, nx := _, e := _ }
 simp only [List.cons_append, List.nil_append]
 have ff := And.intro @hx ff
 refine Zaa ?_
 refine stp Lun ?_
 refine cd (fun c1 => ?_) (fun c1 => ?_) (hp := rfl)
 ·
  have hk2 : i < j := by simpa using c1
  have hm : (i + j) / 2 < l.length := by omega
  have ff := And.intro (mid_eq (i := i) (j := j) (by omega)) (And.intro (Zla hm) ff)
  refine dw_skip ?_
  show DW _ _ _ _ _
  refine Zda ?_
  refine stp Lun ?_
  refine stp Lun ?_ (hok := by (try simp only [go_sem, ff]); all_goals (first | done | ((repeat' (with_reducible apply And.intro)) <;> first | exact Zeh l[(i + j) / 2]! q | (intros; exact Zeh l[(i + j) / 2]! q) | omega)))
  refine cd (fun c2 => ?_) (fun c2 => ?_)
  ·
   refine rgn Lun ?_
   show ∃ _, _
   exact rnd ((i + j) / 2 + 1, j, _) (h1 := ⟨iv, iv, iv, (by first | (exact (Zrh hv hk2).1 c2) | (dsimp only; exact (Zrh hv hk2).1 c2)), trivial⟩)
  ·
   refine rgn Lun ?_
   show ∃ _, _
   exact rnd (i, (i + j) / 2, _) (h1 := ⟨iv, iv, iv, (by (try dsimp only); exact (Zrh hv hk2).2 (by omega)), trivial⟩)
 ·
  refine Zja ?_
  show DW _ _ _ _ _
  have hij2 : i = j := by have h9 : ¬ i < j := (by simpa using c1); omega
  have hv2 : findIx l q = i := by rw [hv, Zcl, if_neg (by omega)]
  by_cases hk4 : i < l.length
  ·
   have ff := And.intro (Zla hk4) ff
   refine stp Lun ?_ (hok := by (try simp only [go_sem, ff]); all_goals (first | done | ((repeat' (with_reducible apply And.intro)) <;> first | exact Zeh l[i]! q | (intros; exact Zeh l[i]! q) | omega | (intro h; have h := of_decide_eq_true h; omega))))
   refine Zba ?_
   exact fin 1 (hr := by (try simp only [go_sem, ff]); all_goals (simp only [findOk]; rw [hv2]; simp [hk4]))
  ·
   have ff := And.intro (Zqv (f := Sgd.d) (Nat.le_of_not_lt hk4)) ff
   refine stp Lun ?_ (hok := by (try simp only [go_sem, ff]); all_goals (first | done | ((repeat' (with_reducible apply And.intro)) <;> first | exact Zeh l[i]! q | (intros; exact Zeh l[i]! q) | omega | (intro h; have h := of_decide_eq_true h; omega))))
   refine Zba ?_
   exact fin 1 (hr := by (try simp only [go_sem, ff]); all_goals (simp only [findOk]; rw [hv2]; simp [hk4]))
theorem bo55 : Zea Tryz.prog 55 = true := by kernel_rfl
theorem Zsg (z : Zon) (q : Qst) (hl : z.sets.length ≤ 1000000) : PureCt Tryz.prog 55 [.agg z.d, .agg q.d] (.tuple [.i (findIx z.sets q), .b (findOk z.sets q)]) := by
 refine Zca Tryz.func55 rfl bo55 (by simp [go_sem, D.nr, nrs, nrr]) (by simp [Tryz.f55]) ?_
 unfold Tryz.f55
 simp only [Zfa]
 have ff := True.intro
 refine stp Lun ?_
 refine stp Lun ?_ (hok := by (try simp only [go_sem, ff]); all_goals (first | done | ((repeat' (with_reducible apply And.intro)) <;> first | exact Zl6 _ _ hl | (intros; exact Zl6 _ _ hl) | skip)))
 refine Zba ?_
 exact fin 1 (hr := by (try simp only [go_sem, ff]); all_goals (rfl))
theorem bo56 : Zea Tryz.prog 56 = true := by kernel_rfl
theorem Zpp (z : Zon) : PureCt Tryz.prog 56 [.agg z.d] (.b (ordered z)) := by
 refine Zca Tryz.func56 rfl bo56 (by simp [go_sem, D.nr, nrs, nrr]) (by simp [Tryz.f56]) ?_
 unfold Tryz.f56
 simp only [Zfa]
 have ff := True.intro
 refine stp Lun ?_
 refine Zaa ?_
 refine stp Lun ?_ (hok := by (try simp only [go_sem, ff]); all_goals (first | done | ((repeat' (with_reducible apply And.intro)) <;> first | exact Zxc _ | (intros; exact Zxc _) | exact Zpm _ _ | (intros; exact Zpm _ _) | skip)))
 refine cd (fun c1 => ?_) (fun c1 => ?_)
 ·
  refine stp Lun ?_
  refine Zba ?_
  exact fin 0 (hr := by (try simp only [go_sem, ff]); all_goals (simp only [ordered]; rw [Zru] at *; grind))
 ·
  refine dw_skip ?_
  show DW _ _ _ _ _
  refine Zaa ?_
  refine stp Lun ?_
  refine Zda ?_
  refine lp (α := (Nat) × Nat) [1, 28, 29] (fun ⟨k, nx⟩ => (k ≤ z.sets.length) ∧ (Zva z.sets.length (Ztk z.apex z.sets) 0 = Zva z.sets.length (Ztk z.apex z.sets) k) ∧ (0 < nx) ∧ True) (fun ⟨k, nx⟩ => z.sets.length - k) (fun ⟨k, nx⟩ => [(30, .i k)]) (fun ⟨k, nx⟩ => [(0, ⟨82, [z.d]⟩)]) (fun ⟨k, nx⟩ => nx) (0, _) (hA := ⟨iv, rfl, iv, trivial⟩) (round := ?_)
  rintro ⟨k, nx⟩ ⟨hk, hv, hx, -⟩
  show DW _ _ _ _ { n := _, t := tab _, h := _, nx := _, e := _ }
  simp only [List.cons_append, List.nil_append]
  have ff := And.intro @hx ff
  refine stp Lun ?_
  refine Zaa ?_
  refine cd (fun c2 => ?_) (fun c2 => ?_) (hp := rfl)
  ·
   have hk2 : k < z.sets.length := by simpa using c2
   have h0 : 0 < z.sets.length := by omega
   have hk1 : k - 1 < z.sets.length := by omega
   have e1 : ((k:Int) - 1).toNat = k - 1 := by omega
   have ff := And.intro (Zla hk2) (And.intro (Zla h0) (And.intro (Zla hk1) (And.intro @e1 ff)))
   refine dw_skip ?_
   show DW _ _ _ _ _
   refine Zaa ?_
   refine Zda ?_
   refine stp Lun ?_
   refine Zaa ?_
   refine stp Lun ?_ (hok := by (try simp only [go_sem, ff]); all_goals (exact Zgc _))
   refine cd (fun c3 => ?_) (fun c3 => ?_)
   ·
    refine stp Lun ?_
    refine Zba ?_
    exact fin 0 (hr := by (try simp only [go_sem, ff]); all_goals (have hF : (Ztk z.apex z.sets) k = false := (by simp only [Ztk]; grind [Sgd.q]); simp only [ordered]; rw [hv, Zpa hk2 hF]; try simp))
   ·
    refine dw_skip ?_
    show DW _ _ _ _ _
    refine Zaa ?_
    refine stp Lun ?_ (hok := by (try simp only [go_sem, ff]); all_goals (exact Zzl _ _))
    refine stp Lun ?_
    refine cd (fun c4 => ?_) (fun c4 => ?_)
    ·
     refine stp Lun ?_
     refine Zba ?_
     exact fin 0 (hr := by (try simp only [go_sem, ff]); all_goals (have hF : (Ztk z.apex z.sets) k = false := (by simp only [Ztk]; grind [Sgd.q]); simp only [ordered]; rw [hv, Zpa hk2 hF]; try simp))
    ·
     refine dw_skip ?_
     show DW _ _ _ _ _
     refine Zaa ?_
     refine stp Lun ?_
     refine cd (fun c5 => ?_) (fun c5 => ?_)
     ·
      refine Zja ?_
      show DW _ _ _ _ _
      refine rgn Lun ?_
      show ∃ _, _
      have h8 : (Ztk z.apex z.sets) k = true := by simp only [Ztk]; grind [Sgd.q]
      exact rnd (k + 1, _) (h1 := ⟨iv, (by first | (rw [hv, Zga hk2 h8]) | (dsimp only; rw [hv, Zga hk2 h8])), iv, trivial⟩)
     ·
      refine dw_skip ?_
      show DW _ _ _ _ _
      refine stp Lun ?_
      refine stp Lun ?_ (hok := by (try simp only [go_sem, ff]); all_goals (exact Ziw _ _ _ _))
      refine cd (fun c6 => ?_) (fun c6 => ?_)
      ·
       refine stp Lun ?_
       refine Zba ?_
       exact fin 0 (hr := by (try simp only [go_sem, ff]); all_goals (have hF : (Ztk z.apex z.sets) k = false := (by simp only [Ztk]; grind [Sgd.q]); simp only [ordered]; rw [hv, Zpa hk2 hF]; try simp))
      ·
       refine dw_skip ?_
       show DW _ _ _ _ _
       refine rgn Lun ?_
       show ∃ _, _
       have h8 : (Ztk z.apex z.sets) k = true := by simp only [Ztk]; grind [Sgd.q]
       exact rnd (k + 1, _) (h1 := ⟨iv, (by first | (rw [hv, Zga hk2 h8]) | (dsimp only; rw [hv, Zga hk2 h8])), iv, trivial⟩)
  ·
   refine Zja ?_
   show DW _ _ _ _ _
   refine stp Lun ?_
   refine Zba ?_
   exact fin 0 (hr := by (try simp only [go_sem, ff]); all_goals (simp only [ordered]; rw [Zru] at *; rw [hv, Zra (by omega)]; grind))
theorem bo57 : Zea Tryz.prog 57 = true := by kernel_rfl
theorem zapex_ct (z : Zon) (hl : z.sets.length ≤ 1000000) : PureCt Tryz.prog 57 [.agg z.d] (.b (apexHolds z)) := by
 refine Zca Tryz.func57 rfl bo57 (by simp [go_sem, D.nr, nrs, nrr]) (by simp [Tryz.f57]) ?_
 unfold Tryz.f57
 simp only [Zfa]
 have ff := True.intro
 refine stp Lun ?_
 refine Zaa ?_
 refine stp Lun ?_
 refine Zda ?_
 refine lp (α := (Nat) × Nat) [1, 9, 10] (fun ⟨k, nx⟩ => (k ≤ 2) ∧ (Zva 2 (Zog z) 0 = Zva 2 (Zog z) k) ∧ (0 < nx) ∧ True) (fun ⟨k, nx⟩ => 2 - k) (fun ⟨k, nx⟩ => [(11, .i k)]) (fun ⟨k, nx⟩ => [(0, ⟨82, [z.d]⟩)]) (fun ⟨k, nx⟩ => nx) (0, _) (hA := ⟨iv, rfl, iv, trivial⟩) (round := ?_)
 rintro ⟨k, nx⟩ ⟨hk, hv1, hx, -⟩
 show DW _ _ _ _ { n := _, t := tab _, h := _, nx := _, e := _ }
 simp only [List.cons_append, List.nil_append]
 have ff := And.intro @hx ff
 refine stp Lun ?_
 refine Zaa ?_
 refine cd (fun c1 => ?_) (fun c1 => ?_) (hp := rfl)
 ·
  have hk2 : k < 2 := by have h9 : (k:Int) < 2 := (by simpa using c1); omega
  refine dw_skip ?_
  show DW _ _ _ _ _
  refine Zaa ?_
  refine Zda ?_
  have h01 : k = 0 ∨ k = 1 := by omega
  rcases h01 with e0 | e0
  ·
   have ff := And.intro @e0 ff
   refine stp Lun ?_
   refine stp Lun ?_ (hok := by (try simp only [go_sem, ff]); all_goals (first | done | ((repeat' (with_reducible apply And.intro)) <;> first | exact Zsg z ⟨z.apex, 4⟩ hl | (intros; exact Zsg z ⟨z.apex, 4⟩ hl) | exact Zsg z ⟨z.apex, 2⟩ hl | (intros; exact Zsg z ⟨z.apex, 2⟩ hl) | skip)))
   refine stp Lun ?_
   refine cd (fun c2 => ?_) (fun c2 => ?_)
   ·
    refine stp Lun ?_
    refine Zba ?_
    exact fin 0 (hr := by (try simp only [go_sem, ff]); all_goals (have hF : (Zog z) k = false := (by simpa [Zog, e0] using c2); simp only [apexHolds]; rw [hv1, Zpa hk2 hF]; try simp))
   ·
    refine dw_skip ?_
    show DW _ _ _ _ _
    refine rgn Lun ?_
    show ∃ _, _
    have h8 : (Zog z) k = true := by simpa [Zog, e0] using c2
    exact rnd (k + 1, _) (h1 := ⟨iv, (by first | (rw [hv1, Zga hk2 h8]) | (dsimp only; rw [hv1, Zga hk2 h8])), iv, trivial⟩)
  ·
   have ff := And.intro @e0 ff
   refine stp Lun ?_
   refine stp Lun ?_ (hok := by (try simp only [go_sem, ff]); all_goals (first | done | ((repeat' (with_reducible apply And.intro)) <;> first | exact Zsg z ⟨z.apex, 4⟩ hl | (intros; exact Zsg z ⟨z.apex, 4⟩ hl) | exact Zsg z ⟨z.apex, 2⟩ hl | (intros; exact Zsg z ⟨z.apex, 2⟩ hl) | skip)))
   refine stp Lun ?_
   refine cd (fun c2 => ?_) (fun c2 => ?_)
   ·
    refine stp Lun ?_
    refine Zba ?_
    exact fin 0 (hr := by (try simp only [go_sem, ff]); all_goals (have hF : (Zog z) k = false := (by simpa [Zog, e0] using c2); simp only [apexHolds]; rw [hv1, Zpa hk2 hF]; try simp))
   ·
    refine dw_skip ?_
    show DW _ _ _ _ _
    refine rgn Lun ?_
    show ∃ _, _
    have h8 : (Zog z) k = true := by simpa [Zog, e0] using c2
    exact rnd (k + 1, _) (h1 := ⟨iv, (by first | (rw [hv1, Zga hk2 h8]) | (dsimp only; rw [hv1, Zga hk2 h8])), iv, trivial⟩)
 ·
  refine Zja ?_
  show DW _ _ _ _ _
  refine Zaa ?_
  refine stp Lun ?_
  refine Zda ?_
  refine lp (α := (Nat) × Nat) [1, 30, 31] (fun ⟨k, nx⟩ => (k ≤ z.sets.length) ∧ (Zva z.sets.length (Zzk z.apex z.sets) 0 = Zva z.sets.length (Zzk z.apex z.sets) k) ∧ (0 < nx) ∧ True) (fun ⟨k, nx⟩ => z.sets.length - k) (fun ⟨k, nx⟩ => [(32, .i k)]) (fun ⟨k, nx⟩ => [(0, ⟨82, [z.d]⟩)]) (fun ⟨k, nx⟩ => nx) (0, _) (hA := ⟨iv, rfl, iv, trivial⟩) (round := ?_)
  rintro ⟨k, nx⟩ ⟨hk, hv, hx, -⟩
  show DW _ _ _ _ { n := _, t := tab _, h := _, nx := _, e := _ }
  simp only [List.cons_append, List.nil_append]
  have ff := And.intro @hx ff
  refine stp Lun ?_
  refine Zaa ?_
  refine cd (fun c3 => ?_) (fun c3 => ?_) (hp := rfl)
  ·
   have hk2 : k < z.sets.length := by simpa using c3
   have ff := And.intro (Zla hk2) ff
   refine dw_skip ?_
   show DW _ _ _ _ _
   refine Zaa ?_
   refine Zda ?_
   refine stp Lun ?_
   refine stp Lun ?_ (hok := by (try simp only [go_sem, ff]); all_goals (exact Zb1 _ _))
   refine cd (fun c4 => ?_) (fun c4 => ?_)
   ·
    refine stp Lun ?_
    refine Zba ?_
    exact fin 0 (hr := by (try simp only [go_sem, ff]); all_goals (have hF : (Zzk z.apex z.sets) k = false := (by simp only [Zzk]; grind); simp only [apexHolds]; rw [hv, Zpa hk2 hF]; try simp))
   ·
    refine dw_skip ?_
    show DW _ _ _ _ _
    refine rgn Lun ?_
    show ∃ _, _
    have h8 : (Zzk z.apex z.sets) k = true := by simp only [Zzk]; grind
    exact rnd (k + 1, _) (h1 := ⟨iv, (by first | (rw [hv, Zga hk2 h8]) | (dsimp only; rw [hv, Zga hk2 h8])), iv, trivial⟩)
  ·
   refine Zja ?_
   show DW _ _ _ _ _
   refine stp Lun ?_
   refine Zba ?_
   exact fin 0 (hr := by (try simp only [go_sem, ff]); all_goals (simp only [apexHolds]; rw [hv1, hv, Zra (n := 2) (by omega), Zra (by omega)]; rfl))
set_option maxRecDepth 10000
@[go_sem] theorem keysOk_T {m : List Str} : Zwi Tryz.prog 9 (kvT m) = true := by
 induction m with
 | nil => rfl
 | cons s m ih => rw [Zmi]; simp only [Zwi, ih, ko9, Bool.and_self]
theorem bo59 : Zea Tryz.prog 59 = true := by kernel_rfl
theorem Zjw (x : Lay) (hl : x.z.sets.length ≤ 1000000) : PureCt Tryz.prog 59 [.agg x.d] (.b (aliasB x)) := by
 refine Zca Tryz.func59 rfl bo59 (by simp [go_sem, D.nr, nrs, nrr]) (by simp [Tryz.f59]) ?_
 unfold Tryz.f59
 simp only [Zfa]
 have ff := True.intro
 refine stp Lun ?_
 refine Zaa ?_
 refine stp Lun ?_
 refine Zda ?_
 refine lp (α := (Nat) × Nat) [1, 8, 9] (fun ⟨k, nx⟩ => (k ≤ x.z.sets.length) ∧ (Zva x.z.sets.length (Zfd x.z.sets) 0 = Zva x.z.sets.length (Zfd x.z.sets) k) ∧ (0 < nx) ∧ True) (fun ⟨k, nx⟩ => x.z.sets.length - k) (fun ⟨k, nx⟩ => [(10, .i k)]) (fun ⟨k, nx⟩ => [(0, ⟨85, [x.d]⟩)]) (fun ⟨k, nx⟩ => nx) (0, _) (hA := ⟨iv, rfl, iv, trivial⟩) (round := ?_)
 rintro ⟨k, nx⟩ ⟨hk, hv, hx, -⟩
 show DW _ _ _ _ { n := _, t := tab _, h := _, nx := _, e := _ }
 simp only [List.cons_append, List.nil_append]
 have ff := And.intro @hx ff
 refine stp Lun ?_
 refine Zaa ?_
 refine cd (fun c1 => ?_) (fun c1 => ?_) (hp := rfl)
 ·
  have hk2 : k < x.z.sets.length := by simpa using c1
  have hk1 : k - 1 < x.z.sets.length := by omega
  have e1 : ((k:Int) - 1).toNat = k - 1 := by omega
  have e2 : ((k:Int) + 1).toNat = k + 1 := by omega
  have ff := And.intro (Zla hk2) (And.intro (Zla hk1) (And.intro @e1 (And.intro @e2 ff)))
  refine dw_skip ?_
  show DW _ _ _ _ _
  refine Zaa ?_
  refine Zda ?_
  refine stp Lun ?_
  refine Zaa ?_
  refine stp Lun ?_
  refine cd (fun c2 => ?_) (fun c2 => ?_)
  ·
   refine Zja ?_
   show DW _ _ _ _ _
   refine rgn Lun ?_
   show ∃ _, _
   have h8 : (Zfd x.z.sets) k = true := by simp only [Zfd]; grind
   exact rnd (k + 1, _) (h1 := ⟨iv, (by first | (rw [hv, Zga hk2 h8]) | (dsimp only; rw [hv, Zga hk2 h8])), iv, trivial⟩)
  ·
   refine dw_skip ?_
   show DW _ _ _ _ _
   refine Zaa ?_
   refine stp Lun ?_
   refine cd (fun c3 => ?_) (fun c3 => ?_)
   ·
    refine stp Lun ?_
    refine Zba ?_
    exact fin 0 (hr := by (try simp only [go_sem, ff]); all_goals (have hF : (Zfd x.z.sets) k = false := (by simp only [Zfd]; grind); simp only [aliasB]; rw [hv, Zpa hk2 hF]; try simp))
   ·
    refine dw_skip ?_
    show DW _ _ _ _ _
    by_cases hk4 : k + 1 < x.z.sets.length
    ·
     have ff := And.intro (Zla hk4) ff
     refine stp Lun ?_
     refine cd (fun c4 => ?_) (fun c4 => ?_)
     ·
      refine stp Lun ?_
      refine Zba ?_
      exact fin 0 (hr := by (try simp only [go_sem, ff]); all_goals (have hF : (Zfd x.z.sets) k = false := (by simp only [Zfd]; grind); simp only [aliasB]; rw [hv, Zpa hk2 hF]; try simp))
     ·
      refine dw_skip ?_
      show DW _ _ _ _ _
      refine rgn Lun ?_
      show ∃ _, _
      have h8 : (Zfd x.z.sets) k = true := by simp only [Zfd]; grind
      exact rnd (k + 1, _) (h1 := ⟨iv, (by first | (rw [hv, Zga hk2 h8]) | (dsimp only; rw [hv, Zga hk2 h8])), iv, trivial⟩)
    ·
     have e9 : decide (((k + 1 : Nat) : Int) < x.z.sets.length) = false := decide_eq_false (by omega)
     have ff := And.intro (Zqv (f := Sgd.d) (Nat.le_of_not_lt hk4)) ff
     refine stp Lun ?_
     refine cd (fun c5 => ?_) (fun c5 => ?_)
     ·
      refine stp Lun ?_
      refine Zba ?_
      exact fin 0 (hr := by (try simp only [go_sem, ff]); all_goals (have hF : (Zfd x.z.sets) k = false := (by simp only [Zfd]; grind); simp only [aliasB]; rw [hv, Zpa hk2 hF]; try simp))
     ·
      refine dw_skip ?_
      show DW _ _ _ _ _
      refine rgn Lun ?_
      show ∃ _, _
      have h8 : (Zfd x.z.sets) k = true := by simp only [Zfd]; grind
      exact rnd (k + 1, _) (h1 := ⟨iv, (by first | (rw [hv, Zga hk2 h8]) | (dsimp only; rw [hv, Zga hk2 h8])), iv, trivial⟩)
 ·
  refine Zja ?_
  show DW _ _ _ _ _
  refine stp Lun ?_
  refine Zba ?_
  exact fin 0 (hr := by (try simp only [go_sem, ff]); all_goals (simp only [aliasB]; rw [hv, Zra (by omega)]))
theorem bo60 : Zea Tryz.prog 60 = true := by kernel_rfl
theorem Zg2 (x : Lay) (hl : x.z.sets.length ≤ 1000000) (hb : x.b.length = x.z.sets.length) : PureCt Tryz.prog 60 [.agg x.d] (.b (cutB x)) := by
 refine Zca Tryz.func60 rfl bo60 (by simp [go_sem, D.nr, nrs, nrr]) (by simp [Tryz.f60]) ?_
 unfold Tryz.f60
 simp only [Zfa]
 have ff := True.intro
 refine stp Lun ?_
 refine Zaa ?_
 refine stp Lun ?_
 refine Zda ?_
 refine lp (α := (Nat) × Nat) [1, 9, 10] (fun ⟨k, nx⟩ => (k ≤ x.z.sets.length) ∧ (Zva x.z.sets.length (cutAt x) 0 = Zva x.z.sets.length (cutAt x) k) ∧ (0 < nx) ∧ True) (fun ⟨k, nx⟩ => x.z.sets.length - k) (fun ⟨k, nx⟩ => [(11, .i k)]) (fun ⟨k, nx⟩ => [(0, ⟨85, [x.d]⟩)]) (fun ⟨k, nx⟩ => nx) (0, _) (hA := ⟨iv, rfl, iv, trivial⟩) (round := ?_)
 rintro ⟨k, nx⟩ ⟨hk, hv, hx, -⟩
 show DW _ _ _ _ { n := _, t := tab _, h := _, nx := _, e := _ }
 simp only [List.cons_append, List.nil_append]
 have ff := And.intro @hx ff
 refine stp Lun ?_
 refine Zaa ?_
 refine cd (fun c1 => ?_) (fun c1 => ?_) (hp := rfl)
 ·
  have hk2 : k < x.z.sets.length := by simpa using c1
  have hk3 : k < x.b.length := by omega
  have ff := And.intro (Zla hk2) (And.intro (Zcd hk3) ff)
  refine dw_skip ?_
  show DW _ _ _ _ _
  refine Zaa ?_
  refine Zda ?_
  refine stp Lun ?_
  refine stp Lun ?_
  refine stp Lun ?_
  refine Zda ?_
  refine stp Lun ?_
  refine cd (fun c2 => ?_) (fun c2 => ?_)
  ·
   refine stp Lun ?_
   refine cd (fun c3 => ?_) (fun c3 => ?_)
   ·
    refine stp Lun ?_
    refine Zba ?_
    exact fin 0 (hr := by (try simp only [go_sem, ff]); all_goals (have hF : (cutAt x) k = false := (by simp only [cutAt]; grind); simp only [cutB]; rw [hv, Zpa hk2 hF]; try simp))
   ·
    refine dw_skip ?_
    show DW _ _ _ _ _
    refine rgn Lun ?_
    show ∃ _, _
    have h8 : (cutAt x) k = true := by simp only [cutAt]; grind
    exact rnd (k + 1, _) (h1 := ⟨iv, (by first | (rw [hv, Zga hk2 h8]) | (dsimp only; rw [hv, Zga hk2 h8])), iv, trivial⟩)
  ·
   refine stp Lun ?_
   refine cd (fun c4 => ?_) (fun c4 => ?_)
   ·
    refine stp Lun ?_
    refine cd (fun c5 => ?_) (fun c5 => ?_)
    ·
     refine stp Lun ?_
     refine Zba ?_
     exact fin 0 (hr := by (try simp only [go_sem, ff]); all_goals (have hF : (cutAt x) k = false := (by simp only [cutAt]; grind); simp only [cutB]; rw [hv, Zpa hk2 hF]; try simp))
    ·
     refine dw_skip ?_
     show DW _ _ _ _ _
     refine rgn Lun ?_
     show ∃ _, _
     have h8 : (cutAt x) k = true := by simp only [cutAt]; grind
     exact rnd (k + 1, _) (h1 := ⟨iv, (by first | (rw [hv, Zga hk2 h8]) | (dsimp only; rw [hv, Zga hk2 h8])), iv, trivial⟩)
   ·
    refine stp Lun ?_
    refine cd (fun c6 => ?_) (fun c6 => ?_)
    ·
     refine stp Lun ?_
     refine Zba ?_
     exact fin 0 (hr := by (try simp only [go_sem, ff]); all_goals (have hF : (cutAt x) k = false := (by simp only [cutAt]; grind); simp only [cutB]; rw [hv, Zpa hk2 hF]; try simp))
    ·
     refine dw_skip ?_
     show DW _ _ _ _ _
     refine rgn Lun ?_
     show ∃ _, _
     have h8 : (cutAt x) k = true := by simp only [cutAt]; grind
     exact rnd (k + 1, _) (h1 := ⟨iv, (by first | (rw [hv, Zga hk2 h8]) | (dsimp only; rw [hv, Zga hk2 h8])), iv, trivial⟩)
 ·
  refine Zja ?_
  show DW _ _ _ _ _
  refine stp Lun ?_
  refine Zba ?_
  exact fin 0 (hr := by (try simp only [go_sem, ff]); all_goals (simp only [cutB]; rw [hv, Zra (by omega)]))
theorem bo61 : Zea Tryz.prog 61 = true := by kernel_rfl
theorem Ze2 (x : Lay) (hl : x.z.sets.length ≤ 1000000) (hb : x.b.length = x.z.sets.length) : PureCt Tryz.prog 61 [.agg x.d] (.b (glueB x)) := by
 refine Zca Tryz.func61 rfl bo61 (by simp [go_sem, D.nr, nrs, nrr]) (by simp [Tryz.f61]) ?_
 unfold Tryz.f61
 simp only [Zfa]
 have ff := True.intro
 refine stp Lun ?_
 refine Zaa ?_
 refine stp Lun ?_
 refine Zda ?_
 refine lp (α := (Nat) × Nat) [1, 9, 10] (fun ⟨k, nx⟩ => (k ≤ x.z.sets.length) ∧ (Zva x.z.sets.length (Zpj x) 0 = Zva x.z.sets.length (Zpj x) k) ∧ (0 < nx) ∧ True) (fun ⟨k, nx⟩ => x.z.sets.length - k) (fun ⟨k, nx⟩ => [(11, .i k)]) (fun ⟨k, nx⟩ => [(0, ⟨85, [x.d]⟩)]) (fun ⟨k, nx⟩ => nx) (0, _) (hA := ⟨iv, rfl, iv, trivial⟩) (round := ?_)
 rintro ⟨k, nx⟩ ⟨hk, hv, hx, -⟩
 show DW _ _ _ _ { n := _, t := tab _, h := _, nx := _, e := _ }
 simp only [List.cons_append, List.nil_append]
 have ff := And.intro @hx ff
 refine stp Lun ?_
 refine Zaa ?_
 refine cd (fun c1 => ?_) (fun c1 => ?_) (hp := rfl)
 ·
  have hk2 : k < x.z.sets.length := by simpa using c1
  have hk3 : k < x.b.length := by omega
  have ff := And.intro (Zla hk2) (And.intro (Zcd hk3) ff)
  refine dw_skip ?_
  show DW _ _ _ _ _
  refine Zaa ?_
  refine Zda ?_
  refine stp Lun ?_
  refine stp Lun ?_
  refine stp Lun ?_
  refine cd (fun c2 => ?_) (fun c2 => ?_)
  ·
   refine stp Lun ?_
   refine Zba ?_
   exact fin 0 (hr := by (try simp only [go_sem, ff]); all_goals (have hF : (Zpj x) k = false := (by simp only [Zpj]; grind); simp only [glueB]; rw [hv, Zpa hk2 hF]; try simp))
  ·
   refine dw_skip ?_
   show DW _ _ _ _ _
   refine rgn Lun ?_
   show ∃ _, _
   have h8 : (Zpj x) k = true := by simp only [Zpj]; grind
   exact rnd (k + 1, _) (h1 := ⟨iv, (by first | (rw [hv, Zga hk2 h8]) | (dsimp only; rw [hv, Zga hk2 h8])), iv, trivial⟩)
 ·
  refine Zja ?_
  show DW _ _ _ _ _
  refine stp Lun ?_
  refine Zba ?_
  exact fin 0 (hr := by (try simp only [go_sem, ff]); all_goals (simp only [glueB]; rw [hv, Zra (by omega)]))
theorem bo62 : Zea Tryz.prog 62 = true := by kernel_rfl
theorem Zf2 (x : Lay) (hl : x.z.sets.length ≤ 1000000) : PureCt Tryz.prog 62 [.agg x.d] (.b (formB x)) := by
 refine Zca Tryz.func62 rfl bo62 (by simp [go_sem, D.nr, nrs, nrr]) (by simp [Tryz.f62]) ?_
 unfold Tryz.f62
 simp only [Zfa]
 have ff := True.intro
 refine stp Lun ?_
 refine Zaa ?_
 refine stp Lun ?_
 refine Zda ?_
 refine lp (α := (Nat) × Nat) [1, 8, 9] (fun ⟨k, nx⟩ => (k ≤ x.z.sets.length) ∧ (Zva x.z.sets.length (Zyi x.z) 0 = Zva x.z.sets.length (Zyi x.z) k) ∧ (0 < nx) ∧ True) (fun ⟨k, nx⟩ => x.z.sets.length - k) (fun ⟨k, nx⟩ => [(10, .i k)]) (fun ⟨k, nx⟩ => [(0, ⟨85, [x.d]⟩)]) (fun ⟨k, nx⟩ => nx) (0, _) (hA := ⟨iv, rfl, iv, trivial⟩) (round := ?_)
 rintro ⟨k, nx⟩ ⟨hk, hv, hx, -⟩
 show DW _ _ _ _ { n := _, t := tab _, h := _, nx := _, e := _ }
 simp only [List.cons_append, List.nil_append]
 have ff := And.intro @hx ff
 refine stp Lun ?_
 refine Zaa ?_
 refine cd (fun c1 => ?_) (fun c1 => ?_) (hp := rfl)
 ·
  have hk2 : k < x.z.sets.length := by simpa using c1
  have ff := And.intro (Zla hk2) ff
  refine dw_skip ?_
  show DW _ _ _ _ _
  refine Zaa ?_
  refine Zda ?_
  refine stp Lun ?_
  refine stp Lun ?_ (hok := by (try simp only [go_sem, ff]); all_goals (exact Ze4 _ _))
  refine cd (fun c2 => ?_) (fun c2 => ?_)
  ·
   refine stp Lun ?_
   refine Zba ?_
   exact fin 0 (hr := by (try simp only [go_sem, ff]); all_goals (have hF : (Zyi x.z) k = false := (by simpa only [Zyi] using c2); simp only [formB]; rw [hv, Zpa hk2 hF]; try simp))
  ·
   refine dw_skip ?_
   show DW _ _ _ _ _
   refine rgn Lun ?_
   show ∃ _, _
   have h8 : (Zyi x.z) k = true := by simpa only [Zyi] using c2
   exact rnd (k + 1, _) (h1 := ⟨iv, (by first | (rw [hv, Zga hk2 h8]) | (dsimp only; rw [hv, Zga hk2 h8])), iv, trivial⟩)
 ·
  refine Zja ?_
  show DW _ _ _ _ _
  refine stp Lun ?_
  refine Zba ?_
  exact fin 0 (hr := by (try simp only [go_sem, ff]); all_goals (simp only [formB]; rw [hv, Zra (by omega)]))
set_option maxRecDepth 10000
theorem bo58 : Zea Tryz.prog 58 = true := by kernel_rfl
theorem zlay_ct (z : Zon) (hl : z.sets.length ≤ 1000000) : PureCt Tryz.prog 58 [.agg z.d] (.agg (layOf z).d) := by
 refine Zca Tryz.func58 rfl bo58 (by simp [go_sem, D.nr, nrs, nrr]) (by simp [Tryz.f58]) ?_
 unfold Tryz.f58
 simp only [Zfa]
 have ff := True.intro
 refine stp Lun ?_
 refine stp Lun ?_
 refine Zaa ?_
 refine stp Lun ?_
 refine Zda ?_
 refine lp (α := (Nat) × Nat) [1, 2, 3, 16, 17] (fun ⟨k, nx⟩ => (k ≤ z.sets.length) ∧ (2 < nx) ∧ True) (fun ⟨k, nx⟩ => z.sets.length - k) (fun ⟨k, nx⟩ => [(18, .i k)]) (fun ⟨k, nx⟩ => [(0, ⟨82, [z.d]⟩), (1, ⟨85, [[.v (.string (bs [])), .list true [], .list true []]]⟩), (2, ⟨121, Ztc (kvT (Zhb z (k)))⟩)]) (fun ⟨k, nx⟩ => nx) (0, _) (hA := ⟨iv, iv, trivial⟩) (round := ?_)
 rintro ⟨k, nx⟩ ⟨hk, hx, -⟩
 show DW _ _ _ _ { n := _, t := tab _, h := _, nx := _, e := _ }
 simp only [List.cons_append, List.nil_append]
 have n0 : 0 < nx := by omega
 have n1 : 1 < nx := by omega
 have ff := And.intro @hx (And.intro @n0 (And.intro @n1 ff))
 refine stp Lun ?_
 refine Zaa ?_
 refine cd (fun c1 => ?_) (fun c1 => ?_) (hp := rfl)
 ·
  have hk2 : k < z.sets.length := by simpa using c1
  have ff := And.intro (Zla hk2) ff
  refine dw_skip ?_
  show DW _ _ _ _ _
  refine Zaa ?_
  refine Zda ?_
  refine stp Lun ?_
  refine stp Lun ?_
  refine cd (fun c2 => ?_) (fun c2 => ?_)
  ·
   refine rgn Lun ?_
   show DW _ _ _ _ _
   refine rgn Lun ?_
   show ∃ _, _
   have ff := And.intro (Zs3 (z := z) (k := k) (by grind)) ff
   exact rnd (k + 1, _) (h1 := ⟨iv, iv, trivial⟩)
  ·
   refine dw_skip ?_
   show DW _ _ _ _ _
   refine rgn Lun ?_
   show ∃ _, _
   have ff := And.intro (Yoa (z := z) (k := k) (by grind)) ff
   exact rnd (k + 1, _) (h1 := ⟨iv, iv, trivial⟩)
 ·
  refine Zja ?_
  show DW _ _ _ _ _
  refine Zy5 3 2 ev ev rfl nrs_kvT ?_
  refine stp Lun ?_
  refine stp Lun ?_
  refine Zaa ?_
  refine stp Lun ?_
  refine Zda ?_
  refine lp (α := (Nat) × (Str) × (Nat) × (Nat) × Nat) [2, 3, 49, 50] (fun ⟨k, cut, r6, rb, nx⟩ => (k ≤ z.sets.length) ∧ (rb < nx) ∧ (r6 < nx) ∧ (2 < rb ∧ rb < r6) ∧ (cut = (Zmc (Zhb z z.sets.length) z.sets k).2) ∧ True) (fun ⟨k, cut, r6, rb, nx⟩ => z.sets.length - k) (fun ⟨k, cut, r6, rb, nx⟩ => [(6, .mptr r6 0 0), (7, .v (.string (bs cut))), (51, .i k)]) (fun ⟨k, cut, r6, rb, nx⟩ => [(0, ⟨82, [z.d]⟩), (1, ⟨85, [[.v (.string (bs [])), .list true [], .list true []]]⟩), (r6, ⟨85, [[.v (.string (bs z.apex)), .list false (z.sets.map Sgd.d), .mrow rb 0 z.sets.length]]⟩), (rb, ⟨9, (Zrl (Zhb z z.sets.length) z.sets z.sets.length (k)).map sR⟩)]) (fun ⟨k, cut, r6, rb, nx⟩ => nx) (0, [], (nx + 8), (nx + 6), _) (hA := ⟨iv, iv, iv, iv, iv, trivial⟩) (round := ?_)
  rintro ⟨k, cut, r6, rb, nx⟩ ⟨hk, hx, hx6, hbr, hc, -⟩
  show DW _ _ _ _ { n := _, t := tab _, h := _, nx := _, e := _ }
  simp only [List.cons_append, List.nil_append]
  have n0 : 0 < nx := by omega
  have n1 : 1 < nx := by omega
  have zr6_rb : (r6 = rb) = False := eq_false (by omega)
  have yrb_r6 : (rb = r6) = False := eq_false (by omega)
  have z0_rb : (0 = rb) = False := eq_false (by omega)
  have yrb_0 : (rb = 0) = False := eq_false (by omega)
  have z1_rb : (1 = rb) = False := eq_false (by omega)
  have yrb_1 : (rb = 1) = False := eq_false (by omega)
  have z0_r6 : (0 = r6) = False := eq_false (by omega)
  have yr6_0 : (r6 = 0) = False := eq_false (by omega)
  have z1_r6 : (1 = r6) = False := eq_false (by omega)
  have yr6_1 : (r6 = 1) = False := eq_false (by omega)
  have ff := And.intro @hx (And.intro @hx6 (And.intro @n0 (And.intro @n1 (And.intro @zr6_rb (And.intro @yrb_r6 (And.intro @z0_rb (And.intro @yrb_0 (And.intro @z1_rb (And.intro @yrb_1 (And.intro @z0_r6 (And.intro @yr6_0 (And.intro @z1_r6 (And.intro @yr6_1 ff)))))))))))))
  refine stp Lun ?_
  refine Zaa ?_
  refine cd (fun c3 => ?_) (fun c3 => ?_) (hp := rfl)
  ·
   have hk2 : k < z.sets.length := by simpa using c3
   have ff := And.intro (Zla hk2) (And.intro (Zgq (m := (Zhb z z.sets.length)) (l := z.sets) hk) (And.intro (Zcd (l := Zrl (Zhb z z.sets.length) z.sets z.sets.length k) (n := k) (by rw [Zgq hk]; exact hk2)) ff))
   refine dw_skip ?_
   show DW _ _ _ _ _
   refine Zaa ?_
   refine Zda ?_
   refine stp Lun ?_
   refine stp Lun ?_
   refine Zaa ?_
   refine stp Lun ?_
   refine cd (fun c4 => ?_) (fun c4 => ?_)
   ·
    refine stp Lun ?_ (hok := by (try simp only [go_sem, ff]); all_goals (exact Zzl _ _))
    refine stp Lun ?_
    refine cd (fun c5 => ?_) (fun c5 => ?_)
    ·
     refine rgn Lun ?_
     show DW _ _ _ _ _
     refine Zaa ?_
     refine stp Lun ?_
     refine cd (fun c6 => ?_) (fun c6 => ?_)
     ·
      refine rgn Lun ?_
      show DW _ _ _ _ _
      refine rgn Lun ?_
      show DW _ _ _ _ _
      refine rgn Lun ?_
      show ∃ _, _
      have hcc : (Zmc (Zhb z z.sets.length) z.sets (k + 1)).2 = z.sets[k]!.set.name := by show Zsk _ (Zmc _ _ k).2 _ = _; rw [← hc]; simp only [Zsk]; grind
      have ff := And.intro (Zbg hk2 hcc) (And.intro hcc ff)
      exact rnd (k + 1, (Zmc (Zhb z z.sets.length) z.sets (k + 1)).2, r6, rb, _) (h1 := ⟨iv, iv, iv, iv, iv, trivial⟩)
     ·
      refine dw_skip ?_
      show DW _ _ _ _ _
      refine rgn Lun ?_
      show DW _ _ _ _ _
      refine rgn Lun ?_
      show ∃ _, _
      have hcc : (Zmc (Zhb z z.sets.length) z.sets (k + 1)).2 = [] := by show Zsk _ (Zmc _ _ k).2 _ = _; rw [← hc]; simp only [Zsk]; grind
      have ff := And.intro (Zbg hk2 hcc) (And.intro hcc ff)
      exact rnd (k + 1, (Zmc (Zhb z z.sets.length) z.sets (k + 1)).2, r6, rb, _) (h1 := ⟨iv, iv, iv, iv, iv, trivial⟩)
    ·
     refine dw_skip ?_
     show DW _ _ _ _ _
     refine Zaa ?_
     refine stp Lun ?_
     refine cd (fun c6 => ?_) (fun c6 => ?_)
     ·
      refine rgn Lun ?_
      show DW _ _ _ _ _
      refine rgn Lun ?_
      show DW _ _ _ _ _
      refine rgn Lun ?_
      show ∃ _, _
      have hcc : (Zmc (Zhb z z.sets.length) z.sets (k + 1)).2 = z.sets[k]!.set.name := by show Zsk _ (Zmc _ _ k).2 _ = _; rw [← hc]; simp only [Zsk]; grind
      have ff := And.intro (Zbg hk2 hcc) (And.intro hcc ff)
      exact rnd (k + 1, (Zmc (Zhb z z.sets.length) z.sets (k + 1)).2, r6, rb, _) (h1 := ⟨iv, iv, iv, iv, iv, trivial⟩)
     ·
      refine dw_skip ?_
      show DW _ _ _ _ _
      refine rgn Lun ?_
      show DW _ _ _ _ _
      refine rgn Lun ?_
      show ∃ _, _
      have hcc : (Zmc (Zhb z z.sets.length) z.sets (k + 1)).2 = cut := by show Zsk _ (Zmc _ _ k).2 _ = _; rw [← hc]; simp only [Zsk]; grind
      have ff := And.intro (Zbg hk2 hcc) (And.intro hcc ff)
      exact rnd (k + 1, (Zmc (Zhb z z.sets.length) z.sets (k + 1)).2, r6, rb, _) (h1 := ⟨iv, iv, iv, iv, iv, trivial⟩)
   ·
    refine dw_skip ?_
    show DW _ _ _ _ _
    refine Zaa ?_
    refine stp Lun ?_
    refine cd (fun c6 => ?_) (fun c6 => ?_)
    ·
     refine rgn Lun ?_
     show DW _ _ _ _ _
     refine rgn Lun ?_
     show DW _ _ _ _ _
     refine rgn Lun ?_
     show ∃ _, _
     have hcc : (Zmc (Zhb z z.sets.length) z.sets (k + 1)).2 = z.sets[k]!.set.name := by show Zsk _ (Zmc _ _ k).2 _ = _; rw [← hc]; simp only [Zsk]; grind
     have ff := And.intro (Zbg hk2 hcc) (And.intro hcc ff)
     exact rnd (k + 1, (Zmc (Zhb z z.sets.length) z.sets (k + 1)).2, r6, rb, _) (h1 := ⟨iv, iv, iv, iv, iv, trivial⟩)
    ·
     refine dw_skip ?_
     show DW _ _ _ _ _
     refine rgn Lun ?_
     show DW _ _ _ _ _
     refine rgn Lun ?_
     show ∃ _, _
     have hcc : (Zmc (Zhb z z.sets.length) z.sets (k + 1)).2 = cut := by show Zsk _ (Zmc _ _ k).2 _ = _; rw [← hc]; simp only [Zsk]; grind
     have ff := And.intro (Zbg hk2 hcc) (And.intro hcc ff)
     exact rnd (k + 1, (Zmc (Zhb z z.sets.length) z.sets (k + 1)).2, r6, rb, _) (h1 := ⟨iv, iv, iv, iv, iv, trivial⟩)
  ·
   refine Zja ?_
   show DW _ _ _ _ _
   have e9 : k = z.sets.length := by omega
   subst e9
   have tk : List.take z.sets.length ((Zrl (Zhb z z.sets.length) z.sets z.sets.length z.sets.length).map sR) = (Zj6 z).map sR := by rw [rowsB_n]; exact List.take_of_length_le (by rw [List.length_map, Zpf]; exact Nat.le_refl _)
   have ff := And.intro @tk (And.intro (Zgq (m := (Zhb z z.sets.length)) (l := z.sets) (Nat.le_refl z.sets.length)) ff)
   refine stp Lun ?_
   refine Zba ?_
   exact fin 2 (hr := by (try simp only [go_sem, ff]); all_goals (rfl)) (hk := by (try simp only [go_sem, ff]); all_goals (exact Zvj z))
theorem bo25 : Zea Tryz.prog 25 = true := by kernel_rfl
theorem Znc (z : Zon) : PureCt Tryz.prog 25 [.agg z.d] (.b (zoneOk z)) := by
 refine Zca Tryz.func25 rfl bo25 (by simp [go_sem, D.nr, nrs, nrr]) (by simp [Tryz.f25]) ?_
 unfold Tryz.f25
 simp only [Zfa]
 have ff := True.intro
 refine stp Lun ?_
 refine stp Lun ?_
 refine Zaa ?_
 refine stp Lun ?_ (hok := by (try simp only [go_sem, ff]); all_goals (first | done | ((repeat' (with_reducible apply And.intro)) <;> first | exact Zpp z | (intros; exact Zpp z) | (intro h; exact zapex_ct z (Zm8 h)) | (intros; simp_all; done) | skip)))
 refine cd (fun c1 => ?_) (fun c1 => ?_)
 ·
  refine stp Lun ?_
  refine Zba ?_
  exact fin 0 (hr := by (try simp only [go_sem, ff]); all_goals (simp only [zoneOk]; grind))
 ·
  refine dw_skip ?_
  show DW _ _ _ _ _
  have ho := Zm8 c1.1
  refine stp Lun ?_ (hok := by (try simp only [go_sem, ff]); all_goals (exact zlay_ct z ho))
  refine stp Lun ?_ (hok := by (try simp only [go_sem, ff]); all_goals (first | done | ((repeat' (with_reducible apply And.intro)) <;> first | exact Zjw (layOf z) ho | (intros; exact Zjw (layOf z) ho) | exact Zg2 (layOf z) ho (Zvj z) | (intros; exact Zg2 (layOf z) ho (Zvj z)) | exact Ze2 (layOf z) ho (Zvj z) | (intros; exact Ze2 (layOf z) ho (Zvj z)) | exact Zf2 (layOf z) ho | (intros; exact Zf2 (layOf z) ho) | skip)))
  refine Zba ?_
  exact fin 0 (hr := by (try simp only [go_sem, ff]); all_goals (simp only [zoneOk]; rw [c1.1, c1.2]; simp [Bool.and_assoc]))
set_option maxRecDepth 10000
theorem sig_eqF {x y : RSig} (h : x.zone = y.zone ∧ x.key = y.key ∧ x.alg = y.alg ∧ x.frm = y.frm ∧ x.unt = y.unt ∧ x.sum = y.sum) : x = y := by
 obtain ⟨a, b, c, d, e, f⟩ := x
 obtain ⟨g, i, j, k, l, m⟩ := y
 simp at h
 simp [h]
theorem sig_neF {x y : RSig} (h : ¬x.zone = y.zone ∨ ¬x.key = y.key ∨ ¬x.alg = y.alg ∨ ¬x.frm = y.frm ∨ ¬x.unt = y.unt ∨ ¬x.sum = y.sum) : x ≠ y := by
 rintro rfl
 simp at h
theorem bo42 : Zea Tryz.prog 42 = true := by kernel_rfl
theorem Zzf (a : Sgd) (b : Sgd) (ha : fit1 a) : PureCt Tryz.prog 42 [.agg a.d, .agg b.d] (.b (sameSgd a b)) := by
 refine Zca Tryz.func42 rfl bo42 (by simp [go_sem, D.nr, nrs, nrr]) (by simp [Tryz.f42]) ?_
 unfold Tryz.f42
 simp only [Zfa]
 have ff := True.intro
 have ha2 := ha.2
 refine stp Lun ?_
 refine Zaa ?_
 refine stp Lun ?_ (hok := by (try simp only [go_sem, ff]); all_goals (first | done | ((repeat' (with_reducible apply And.intro)) <;> first | exact Zxs _ _ ha.1 | (intros; exact Zxs _ _ ha.1) | skip)))
 refine cd (fun c1 => ?_) (fun c1 => ?_)
 ·
  refine stp Lun ?_
  refine Zba ?_
  exact fin 0 (hr := by (try simp only [go_sem, ff]); all_goals (rw [sgd_not1 (by grind [sameB])]))
 ·
  refine dw_skip ?_
  show DW _ _ _ _ _
  refine Zaa ?_
  refine stp Lun ?_
  refine Zda ?_
  refine lp (α := (Nat) × Nat) [2, 3] (fun ⟨k, nx⟩ => (k ≤ a.sigs.length) ∧ (1 < nx) ∧ (∀ i, i < k → a.sigs[i]! = b.sigs[i]!) ∧ True) (fun ⟨k, nx⟩ => a.sigs.length - k) (fun ⟨k, nx⟩ => [(5, .i k)]) (fun ⟨k, nx⟩ => [(0, ⟨52, [a.d]⟩), (1, ⟨52, [b.d]⟩)]) (fun ⟨k, nx⟩ => nx) (0, _) (hA := ⟨iv, iv, (by first | (intro i hi; omega) | (dsimp only; intro i hi; omega)), trivial⟩) (round := ?_)
  rintro ⟨k, nx⟩ ⟨hk, hx, hv, -⟩
  show DW _ _ _ _ { n := _, t := tab _, h := _, nx := _, e := _ }
  simp only [List.cons_append, List.nil_append]
  have n0 : 0 < nx := by omega
  have ff := And.intro @hx (And.intro @n0 ff)
  refine Zaa ?_
  refine stp Lun ?_
  refine cd (fun c2 => ?_) (fun c2 => ?_) (hp := rfl)
  ·
   have hk2 : k < a.sigs.length := by simpa using c2
   have hk3 : k < b.sigs.length := by grind
   have ff := And.intro (Zvg hk2) (And.intro (Zvg hk3) ff)
   refine dw_skip ?_
   show DW _ _ _ _ _
   refine Zaa ?_
   refine Zda ?_
   refine stp Lun ?_
   refine cd (fun c3 => ?_) (fun c3 => ?_)
   ·
    refine stp Lun ?_
    refine Zba ?_
    exact fin 0 (hr := by (try simp only [go_sem, ff]); all_goals (rw [sgd_not2 (sig_neF c3)]))
   ·
    refine dw_skip ?_
    show DW _ _ _ _ _
    refine rgn Lun ?_
    show ∃ _, _
    exact rnd (k + 1, _) (h1 := ⟨iv, iv, (by (try dsimp only); intro i hi; by_cases e : i = k; subst e; exact sig_eqF c3; exact hv i (by omega)), trivial⟩)
  ·
   refine Zja ?_
   show DW _ _ _ _ _
   refine stp Lun ?_
   refine Zba ?_
   exact fin 0 (hr := by (try simp only [go_sem, ff]); all_goals (rw [sgd_same (by grind [sameB]) (by grind) fun i hi => hv i (by omega)]))
theorem bo46 : Zea Tryz.prog 46 = true := by kernel_rfl
theorem Zcx (a : List Sgd) (b : List Sgd) (ha : fitL a) : PureCt Tryz.prog 46 [.list false (a.map Sgd.d), .list false (b.map Sgd.d)] (.b (sameList a b)) := by
 refine Zca Tryz.func46 rfl bo46 (by simp [go_sem, D.nr, nrs, nrr]) (by simp [Tryz.f46]) ?_
 unfold Tryz.f46
 simp only [Zfa]
 have ff := True.intro
 have ha1 := ha.1
 refine stp Lun ?_
 refine Zaa ?_
 refine stp Lun ?_
 refine cd (fun c1 => ?_) (fun c1 => ?_)
 ·
  refine stp Lun ?_
  refine Zba ?_
  exact fin 0 (hr := by (try simp only [go_sem, ff]); all_goals (rw [sgds_len (by grind)]))
 ·
  refine dw_skip ?_
  show DW _ _ _ _ _
  refine Zaa ?_
  refine stp Lun ?_
  refine Zda ?_
  refine lp (α := (Nat) × Nat) [0, 1] (fun ⟨k, nx⟩ => (k ≤ a.length) ∧ (∀ i, i < k → sameSgd a[i]! b[i]! = true) ∧ True) (fun ⟨k, nx⟩ => a.length - k) (fun ⟨k, nx⟩ => [(5, .i k)]) (fun ⟨k, nx⟩ => []) (fun ⟨k, nx⟩ => nx) (0, _) (hA := ⟨iv, (by first | (intro i hi; omega) | (dsimp only; intro i hi; omega)), trivial⟩) (round := ?_)
  rintro ⟨k, nx⟩ ⟨hk, hv, -⟩
  show DW _ _ _ _ { n := _, t := tab _, h := _, nx := _, e := _ }
  simp only [List.cons_append, List.nil_append]
  refine Zaa ?_
  refine stp Lun ?_
  refine cd (fun c2 => ?_) (fun c2 => ?_) (hp := rfl)
  ·
   have hk2 : k < a.length := by simpa using c2
   have hk3 : k < b.length := by grind
   have ff := And.intro (Zla hk2) (And.intro (Zla hk3) ff)
   refine dw_skip ?_
   show DW _ _ _ _ _
   refine Zaa ?_
   refine Zda ?_
   refine stp Lun ?_ (hok := by (try simp only [go_sem, ff]); all_goals (first | done | ((repeat' (with_reducible apply And.intro)) <;> first | exact Zzf _ _ (ha.2 k hk2) | (intros; exact Zzf _ _ (ha.2 k hk2)) | omega | skip)))
   refine cd (fun c3 => ?_) (fun c3 => ?_)
   ·
    refine stp Lun ?_
    refine Zba ?_
    exact fin 0 (hr := by (try simp only [go_sem, ff]); all_goals (rw [sgd_not3 (k := k) (by grind)]))
   ·
    refine dw_skip ?_
    show DW _ _ _ _ _
    refine rgn Lun ?_
    show ∃ _, _
    exact rnd (k + 1, _) (h1 := ⟨iv, (by (try dsimp only); intro i hi; by_cases e : i = k; subst e; grind; exact hv i (by omega)), trivial⟩)
  ·
   refine Zja ?_
   show DW _ _ _ _ _
   refine stp Lun ?_
   refine Zba ?_
   exact fin 0 (hr := by (try simp only [go_sem, ff]); all_goals (rw [Zn7 (by grind) fun i hi => hv i (by omega)]))
theorem bo17 : Zea Tryz.prog 17 = true := by kernel_rfl
theorem Zfj (a : Zon) (b : Zon) (ha : fitL a.sets) : PureCt Tryz.prog 17 [.agg a.d, .agg b.d] (.b (sameZ a b)) := by
 refine Zca Tryz.func17 rfl bo17 (by simp [go_sem, D.nr, nrs, nrr]) (by simp [Tryz.f17]) ?_
 unfold Tryz.f17
 simp only [Zfa]
 have ff := True.intro
 refine stp Lun ?_
 refine stp Lun ?_ (hok := by (try simp only [go_sem, ff]); all_goals (first | done | ((repeat' (with_reducible apply And.intro)) <;> first | exact Zcx _ _ ha | (intros; exact Zcx _ _ ha) | skip)))
 refine Zba ?_
 exact fin 0 (hr := by (try simp only [go_sem, ff]); all_goals (simp [sameZ_eq]))
theorem bo66 : Zea Tryz.prog 66 = true := by kernel_rfl
theorem Zcf (z : Zon) (q : Qst) (hl : z.sets.length ≤ 1000000) : PureCt Tryz.prog 66 [.agg z.d, .agg q.d] (.i (atF z.sets q)) := by
 refine Zca Tryz.func66 rfl bo66 (by simp [go_sem, D.nr, nrs, nrr]) (by simp [Tryz.f66]) ?_
 unfold Tryz.f66
 simp only [Zfa]
 have ff := True.intro
 refine stp Lun ?_
 refine Zaa ?_
 refine stp Lun ?_
 refine Zda ?_
 refine lp (α := (Nat) × Nat) [2, 3] (fun ⟨k, nx⟩ => (k ≤ z.sets.length) ∧ (1 < nx) ∧ (atF z.sets q = Zug z.sets q k) ∧ True) (fun ⟨k, nx⟩ => z.sets.length - k) (fun ⟨k, nx⟩ => [(5, .i k)]) (fun ⟨k, nx⟩ => [(0, ⟨24, [z.d]⟩), (1, ⟨58, [q.d]⟩)]) (fun ⟨k, nx⟩ => nx) (0, _) (hA := ⟨iv, iv, rfl, trivial⟩) (round := ?_)
 rintro ⟨k, nx⟩ ⟨hk, hx, hv, -⟩
 show DW _ _ _ _ { n := _, t := tab _, h := _, nx := _, e := _ }
 simp only [List.cons_append, List.nil_append]
 have n0 : 0 < nx := by omega
 have ff := And.intro @hx (And.intro @n0 ff)
 refine Zaa ?_
 refine stp Lun ?_
 refine cd (fun c1 => ?_) (fun c1 => ?_) (hp := rfl)
 ·
  have hk2 : k < z.sets.length := by simpa using c1
  have ff := And.intro (Zla hk2) ff
  refine dw_skip ?_
  show DW _ _ _ _ _
  refine Zaa ?_
  refine Zda ?_
  refine stp Lun ?_
  refine cd (fun c2 => ?_) (fun c2 => ?_)
  ·
   refine stp Lun ?_
   refine Zba ?_
   exact fin 0 (hr := by (try simp only [go_sem, ff]); all_goals (rw [hv, Zzc, if_pos hk2, if_pos (by cases q; simp_all [Sgd.q])]))
  ·
   refine dw_skip ?_
   show DW _ _ _ _ _
   refine rgn Lun ?_
   show ∃ _, _
   exact rnd (k + 1, _) (h1 := ⟨iv, iv, (by (try dsimp only); rw [hv, Zzc, if_pos hk2, if_neg (by intro e; rw [← e] at c2; simp [Sgd.q] at c2)]), trivial⟩)
 ·
  refine Zja ?_
  show DW _ _ _ _ _
  refine stp Lun ?_
  refine Zba ?_
  exact fin 0 (hr := by (try simp only [go_sem, ff]); all_goals (rw [hv, Zzc, if_neg (by omega)]))
theorem bo51 : Zea Tryz.prog 51 = true := by kernel_rfl
theorem Zmx (z : Zon) (hl : z.sets.length ≤ 1000000) : PureCt Tryz.prog 51 [.agg z.d] (.b (twoB z)) := by
 refine Zca Tryz.func51 rfl bo51 (by simp [go_sem, D.nr, nrs, nrr]) (by simp [Tryz.f51]) ?_
 unfold Tryz.f51
 simp only [Zfa]
 have ff := True.intro
 refine stp Lun ?_
 refine Zaa ?_
 refine stp Lun ?_ (hok := by (try simp only [go_sem, ff]); all_goals (first | done | ((repeat' (with_reducible apply And.intro)) <;> first | exact Zcf z ⟨z.apex, 4⟩ hl | (intros; exact Zcf z ⟨z.apex, 4⟩ hl) | exact Zcf z ⟨z.apex, 2⟩ hl | (intros; exact Zcf z ⟨z.apex, 2⟩ hl) | skip)))
 refine cd (fun c1 => ?_) (fun c1 => ?_)
 ·
  refine stp Lun ?_
  refine Zba ?_
  exact fin 0 (hr := by (try simp only [go_sem, ff]); all_goals (simp only [twoB]; grind))
 ·
  refine dw_skip ?_
  show DW _ _ _ _ _
  refine Zaa ?_
  refine stp Lun ?_
  refine Zda ?_
  refine lp (α := (Nat) × Nat) [1] (fun ⟨k, nx⟩ => (k ≤ z.sets.length) ∧ (Zva z.sets.length (Zzk z.apex z.sets) 0 = Zva z.sets.length (Zzk z.apex z.sets) k) ∧ (0 < nx) ∧ True) (fun ⟨k, nx⟩ => z.sets.length - k) (fun ⟨k, nx⟩ => [(3, .i k)]) (fun ⟨k, nx⟩ => [(0, ⟨24, [z.d]⟩)]) (fun ⟨k, nx⟩ => nx) (0, _) (hA := ⟨iv, rfl, iv, trivial⟩) (round := ?_)
  rintro ⟨k, nx⟩ ⟨hk, hv, hx, -⟩
  show DW _ _ _ _ { n := _, t := tab _, h := _, nx := _, e := _ }
  simp only [List.cons_append, List.nil_append]
  have ff := And.intro @hx ff
  refine Zaa ?_
  refine stp Lun ?_
  refine cd (fun c2 => ?_) (fun c2 => ?_) (hp := rfl)
  ·
   have hk2 : k < z.sets.length := by simpa using c2
   have ff := And.intro (Zla hk2) ff
   refine dw_skip ?_
   show DW _ _ _ _ _
   refine Zaa ?_
   refine Zda ?_
   refine stp Lun ?_ (hok := by (try simp only [go_sem, ff]); all_goals (first | done | ((repeat' (with_reducible apply And.intro)) <;> first | exact Zys _ _ | (intros; exact Zys _ _) | omega | skip)))
   refine cd (fun c3 => ?_) (fun c3 => ?_)
   ·
    refine stp Lun ?_
    refine Zba ?_
    exact fin 0 (hr := by (try simp only [go_sem, ff]); all_goals (have hF : (Zzk z.apex z.sets) k = false := (by simp only [Zzk]; grind); simp only [twoB]; rw [hv, Zpa hk2 hF]; try simp))
   ·
    refine dw_skip ?_
    show DW _ _ _ _ _
    refine rgn Lun ?_
    show ∃ _, _
    have h8 : (Zzk z.apex z.sets) k = true := by simp only [Zzk]; grind
    exact rnd (k + 1, _) (h1 := ⟨iv, (by first | (rw [hv, Zga hk2 h8]) | (dsimp only; rw [hv, Zga hk2 h8])), iv, trivial⟩)
  ·
   refine Zja ?_
   show DW _ _ _ _ _
   refine stp Lun ?_
   refine Zba ?_
   exact fin 0 (hr := by (try simp only [go_sem, ff]); all_goals (simp only [twoB]; rw [hv, Zra (by omega)]; grind))
theorem bo50 : Zea Tryz.prog 50 = true := by kernel_rfl
theorem Znx (z : Zon) : PureCt Tryz.prog 50 [.agg z.d] (.b (oneB z)) := by
 refine Zca Tryz.func50 rfl bo50 (by simp [go_sem, D.nr, nrs, nrr]) (by simp [Tryz.f50]) ?_
 unfold Tryz.f50
 simp only [Zfa]
 have ff := True.intro
 refine stp Lun ?_
 refine Zaa ?_
 refine stp Lun ?_ (hok := by (try simp only [go_sem, ff]); all_goals (first | done | ((repeat' (with_reducible apply And.intro)) <;> first | exact Zma _ | (intros; exact Zma _) | exact (fun _ => Zol _ (by have := Zta (by assumption); omega)) | (intros; exact (fun _ => Zol _ (by have := Zta (by assumption); omega))) | exact (fun h => Zol _ (by have := Zta (by simpa using h); omega)) | (intros; exact (fun h => Zol _ (by have := Zta (by simpa using h); omega))) | skip)))
 refine cd (fun c1 => ?_) (fun c1 => ?_)
 ·
  refine stp Lun ?_
  refine Zba ?_
  exact fin 0 (hr := by (try simp only [go_sem, ff]); all_goals (simp only [oneB]; grind))
 ·
  refine dw_skip ?_
  show DW _ _ _ _ _
  refine Zaa ?_
  refine stp Lun ?_
  refine Zda ?_
  refine lp (α := (Nat) × Nat) [1] (fun ⟨k, nx⟩ => (k ≤ z.sets.length) ∧ (Zva z.sets.length (Zvo z.apex z.sets) 0 = Zva z.sets.length (Zvo z.apex z.sets) k) ∧ (0 < nx) ∧ True) (fun ⟨k, nx⟩ => z.sets.length - k) (fun ⟨k, nx⟩ => [(3, .i k)]) (fun ⟨k, nx⟩ => [(0, ⟨24, [z.d]⟩)]) (fun ⟨k, nx⟩ => nx) (0, _) (hA := ⟨iv, rfl, iv, trivial⟩) (round := ?_)
  rintro ⟨k, nx⟩ ⟨hk, hv, hx, -⟩
  show DW _ _ _ _ { n := _, t := tab _, h := _, nx := _, e := _ }
  simp only [List.cons_append, List.nil_append]
  have ff := And.intro @hx ff
  refine Zaa ?_
  refine stp Lun ?_
  refine cd (fun c2 => ?_) (fun c2 => ?_) (hp := rfl)
  ·
   have hk2 : k < z.sets.length := by simpa using c2
   have hk1 : k - 1 < z.sets.length := by omega
   have e1 : ((k:Int) - 1).toNat = k - 1 := by omega
   have ff := And.intro (Zla hk2) (And.intro (Zla hk1) (And.intro @e1 ff))
   refine dw_skip ?_
   show DW _ _ _ _ _
   refine Zaa ?_
   refine Zda ?_
   refine stp Lun ?_
   refine stp Lun ?_ (hok := by (try simp only [go_sem, ff]); all_goals (first | done | ((repeat' (with_reducible apply And.intro)) <;> first | exact Zve _ | (intros; exact Zve _) | exact Zsl _ _ | (intros; exact Zsl _ _) | exact (fun h => Zib _ _ (set_nm (by simpa using h)) (by have := Zta c1.1.1; omega)) | (intros; exact (fun h => Zib _ _ (set_nm (by simpa using h)) (by have := Zta c1.1.1; omega))) | omega | (intro h; simp only [Bool.and_eq_true, decide_eq_true_eq] at h; omega) | (intros; simp_all; done) | skip)))
   refine cd (fun c3 => ?_) (fun c3 => ?_)
   ·
    refine stp Lun ?_
    refine Zba ?_
    exact fin 0 (hr := by (try simp only [go_sem, ff]); all_goals (have hF : (Zvo z.apex z.sets) k = false := (by simp only [Zvo]; grind); simp only [oneB]; rw [hv, Zpa hk2 hF]; try simp))
   ·
    refine dw_skip ?_
    show DW _ _ _ _ _
    refine rgn Lun ?_
    show ∃ _, _
    have h8 : (Zvo z.apex z.sets) k = true := by simp only [Zvo]; grind
    exact rnd (k + 1, _) (h1 := ⟨iv, (by first | (rw [hv, Zga hk2 h8]) | (dsimp only; rw [hv, Zga hk2 h8])), iv, trivial⟩)
  ·
   refine Zja ?_
   show DW _ _ _ _ _
   refine stp Lun ?_
   refine Zba ?_
   exact fin 0 (hr := by (try simp only [go_sem, ff]); all_goals (simp only [oneB]; rw [hv, Zra (by omega)]; grind))
theorem bo11 : Zea Tryz.prog 11 = true := by kernel_rfl
theorem Zox (z : Zon) : PureCt Tryz.prog 11 [.agg z.d] (.b (fewZ z)) := by
 refine Zca Tryz.func11 rfl bo11 (by simp [go_sem, D.nr, nrs, nrr]) (by simp [Tryz.f11]) ?_
 unfold Tryz.f11
 simp only [Zfa]
 have ff := True.intro
 refine stp Lun ?_
 refine Zaa ?_
 refine stp Lun ?_
 refine Zda ?_
 refine lp (α := (Nat) × Nat) [1] (fun ⟨k, nx⟩ => (k ≤ z.sets.length) ∧ (Zva z.sets.length (fun i => decide (z.sets[i]!.set.data.length ≤ 20) && decide (z.sets[i]!.sigs.length ≤ 20)) 0 = Zva z.sets.length (fun i => decide (z.sets[i]!.set.data.length ≤ 20) && decide (z.sets[i]!.sigs.length ≤ 20)) k) ∧ (0 < nx) ∧ (k ≤ 101) ∧ True) (fun ⟨k, nx⟩ => z.sets.length - k) (fun ⟨k, nx⟩ => [(3, .i k)]) (fun ⟨k, nx⟩ => [(0, ⟨24, [z.d]⟩)]) (fun ⟨k, nx⟩ => nx) (0, _) (hA := ⟨iv, rfl, iv, iv, trivial⟩) (round := ?_)
 rintro ⟨k, nx⟩ ⟨hk, hv, hx, hk7, -⟩
 show DW _ _ _ _ { n := _, t := tab _, h := _, nx := _, e := _ }
 simp only [List.cons_append, List.nil_append]
 have ff := And.intro @hx ff
 refine Zaa ?_
 refine stp Lun ?_
 refine cd (fun c1 => ?_) (fun c1 => ?_)
 ·
  have hk2 : k < z.sets.length := by grind
  have hk9 : k ≤ 100 := by grind
  have ff := And.intro (Zla hk2) ff
  refine dw_skip ?_
  show DW _ _ _ _ _
  refine Zaa ?_
  refine Zda ?_
  refine stp Lun ?_
  refine cd (fun c2 => ?_) (fun c2 => ?_)
  ·
   refine stp Lun ?_
   refine Zba ?_
   exact fin 0 (hr := by (try simp only [go_sem, ff]); all_goals (have hF : (fun i => decide (z.sets[i]!.set.data.length ≤ 20) && decide (z.sets[i]!.sigs.length ≤ 20)) k = false := (by grind); simp only [fewZ]; rw [hv, Zpa hk2 hF]; try simp))
  ·
   refine dw_skip ?_
   show DW _ _ _ _ _
   refine rgn Lun ?_
   show ∃ _, _
   have h8 : (fun i => decide (z.sets[i]!.set.data.length ≤ 20) && decide (z.sets[i]!.sigs.length ≤ 20)) k = true := by grind
   exact rnd (k + 1, _) (h1 := ⟨iv, (by first | (rw [hv, Zga hk2 h8]) | (dsimp only; rw [hv, Zga hk2 h8])), iv, iv, trivial⟩)
 ·
  refine Zja ?_
  show DW _ _ _ _ _
  refine stp Lun ?_
  refine Zba ?_
  exact fin 0 (hr := by (try simp only [go_sem, ff]); all_goals (simp only [fewZ]; by_cases h100 : z.sets.length ≤ 100; rw [hv, Zra (by grind)]; simp; omega; simp [h100]; omega))
theorem bo52 : Zea Tryz.prog 52 = true := by kernel_rfl
theorem Zjq (z : Zon) (hl : z.sets.length ≤ 1000000) : PureCt Tryz.prog 52 [.agg z.d] (.b (threeB z)) := by
 refine Zca Tryz.func52 rfl bo52 (by simp [go_sem, D.nr, nrs, nrr]) (by simp [Tryz.f52]) ?_
 unfold Tryz.f52
 simp only [Zfa]
 have ff := True.intro
 refine stp Lun ?_
 refine stp Lun ?_
 refine Zaa ?_
 refine stp Lun ?_
 refine Zda ?_
 refine lp (α := (Nat) × (Str) × Nat) [1] (fun ⟨k, al, nx⟩ => (k ≤ z.sets.length) ∧ (0 < nx) ∧ (al = Zjb z.sets k) ∧ (Zva z.sets.length (Zbc z.sets) 0 = Zva z.sets.length (Zbc z.sets) k) ∧ True) (fun ⟨k, al, nx⟩ => z.sets.length - k) (fun ⟨k, al, nx⟩ => [(3, .v (.string (bs al))), (4, .i k)]) (fun ⟨k, al, nx⟩ => [(0, ⟨24, [z.d]⟩)]) (fun ⟨k, al, nx⟩ => nx) (0, [], _) (hA := ⟨iv, iv, rfl, rfl, trivial⟩) (round := ?_)
 rintro ⟨k, al, nx⟩ ⟨hk, hx, ha, hv, -⟩
 show DW _ _ _ _ { n := _, t := tab _, h := _, nx := _, e := _ }
 simp only [List.cons_append, List.nil_append]
 have ff := And.intro @hx ff
 refine Zaa ?_
 refine stp Lun ?_
 refine cd (fun c1 => ?_) (fun c1 => ?_) (hp := rfl)
 ·
  have hk2 : k < z.sets.length := by simpa using c1
  have hk1 : k - 1 < z.sets.length := by omega
  have e1 : ((k:Int) - 1).toNat = k - 1 := by omega
  have ff := And.intro (Zla hk2) (And.intro (Zla hk1) (And.intro @e1 ff))
  refine dw_skip ?_
  show DW _ _ _ _ _
  refine Zaa ?_
  refine Zda ?_
  refine Zaa ?_
  refine stp Lun ?_
  refine cd (fun c2 => ?_) (fun c2 => ?_)
  ·
   refine rgn Lun ?_
   show DW _ _ _ _ _
   refine stp Lun ?_
   refine stp Lun ?_
   refine Zaa ?_
   refine stp Lun ?_
   refine cd (fun c3 => ?_) (fun c3 => ?_)
   ·
    refine rgn Lun ?_
    show DW _ _ _ _ _
    refine stp Lun ?_ (hok := by (try simp only [go_sem, ff]); all_goals (first | done | grind | (simp; grind)))
    refine cd (fun c4 => ?_) (fun c4 => ?_)
    ·
     refine stp Lun ?_
     refine Zba ?_
     exact fin 0 (hr := by (try simp only [go_sem, ff]); all_goals (have hF : (Zbc z.sets) k = false := (by simp only [Zbc, Zdh, Zjb]; grind); simp only [threeB]; rw [hv, Zpa hk2 hF]; try simp))
    ·
     refine dw_skip ?_
     show DW _ _ _ _ _
     refine rgn Lun ?_
     show ∃ _, _
     have hal : Zjb z.sets (k + 1) = z.sets[k]!.set.name := by simp only [Zjb]; grind
     have ff := And.intro hal ff
     have h8 : Zbc z.sets k = true := by simp only [Zbc, Zdh, hal]; grind
     exact rnd (k + 1, Zjb z.sets (k + 1), _) (h1 := ⟨iv, iv, rfl, (by first | (rw [hv, Zga hk2 h8]) | (dsimp only; rw [hv, Zga hk2 h8])), trivial⟩)
   ·
    refine dw_skip ?_
    show DW _ _ _ _ _
    refine stp Lun ?_ (hok := by (try simp only [go_sem, ff]); all_goals (first | done | grind | (simp; grind)))
    refine cd (fun c4 => ?_) (fun c4 => ?_)
    ·
     refine stp Lun ?_
     refine Zba ?_
     exact fin 0 (hr := by (try simp only [go_sem, ff]); all_goals (have hF : (Zbc z.sets) k = false := (by simp only [Zbc, Zdh, Zjb]; grind); simp only [threeB]; rw [hv, Zpa hk2 hF]; try simp))
    ·
     refine dw_skip ?_
     show DW _ _ _ _ _
     refine rgn Lun ?_
     show ∃ _, _
     have hal : Zjb z.sets (k + 1) = z.sets[k]!.set.name := by simp only [Zjb]; grind
     have ff := And.intro hal ff
     have h8 : Zbc z.sets k = true := by simp only [Zbc, Zdh, hal]; grind
     exact rnd (k + 1, Zjb z.sets (k + 1), _) (h1 := ⟨iv, iv, rfl, (by first | (rw [hv, Zga hk2 h8]) | (dsimp only; rw [hv, Zga hk2 h8])), trivial⟩)
  ·
   refine dw_skip ?_
   show DW _ _ _ _ _
   refine stp Lun ?_
   refine stp Lun ?_
   refine Zaa ?_
   refine stp Lun ?_
   refine cd (fun c3 => ?_) (fun c3 => ?_)
   ·
    refine rgn Lun ?_
    show DW _ _ _ _ _
    refine stp Lun ?_ (hok := by (try simp only [go_sem, ff]); all_goals (first | done | grind | (simp; grind)))
    refine cd (fun c4 => ?_) (fun c4 => ?_)
    ·
     refine stp Lun ?_
     refine Zba ?_
     exact fin 0 (hr := by (try simp only [go_sem, ff]); all_goals (have hF : (Zbc z.sets) k = false := (by simp only [Zbc, Zdh, Zjb]; grind); simp only [threeB]; rw [hv, Zpa hk2 hF]; try simp))
    ·
     refine dw_skip ?_
     show DW _ _ _ _ _
     refine rgn Lun ?_
     show ∃ _, _
     have hal : Zjb z.sets (k + 1) = al := by simp only [Zjb]; grind
     have ff := And.intro hal ff
     have h8 : Zbc z.sets k = true := by simp only [Zbc, Zdh, hal]; grind
     exact rnd (k + 1, Zjb z.sets (k + 1), _) (h1 := ⟨iv, iv, rfl, (by first | (rw [hv, Zga hk2 h8]) | (dsimp only; rw [hv, Zga hk2 h8])), trivial⟩)
   ·
    refine dw_skip ?_
    show DW _ _ _ _ _
    refine stp Lun ?_ (hok := by (try simp only [go_sem, ff]); all_goals (first | done | grind | (simp; grind)))
    refine cd (fun c4 => ?_) (fun c4 => ?_)
    ·
     refine stp Lun ?_
     refine Zba ?_
     exact fin 0 (hr := by (try simp only [go_sem, ff]); all_goals (have hF : (Zbc z.sets) k = false := (by simp only [Zbc, Zdh, Zjb]; grind); simp only [threeB]; rw [hv, Zpa hk2 hF]; try simp))
    ·
     refine dw_skip ?_
     show DW _ _ _ _ _
     refine rgn Lun ?_
     show ∃ _, _
     have hal : Zjb z.sets (k + 1) = al := by simp only [Zjb]; grind
     have ff := And.intro hal ff
     have h8 : Zbc z.sets k = true := by simp only [Zbc, Zdh, hal]; grind
     exact rnd (k + 1, Zjb z.sets (k + 1), _) (h1 := ⟨iv, iv, rfl, (by first | (rw [hv, Zga hk2 h8]) | (dsimp only; rw [hv, Zga hk2 h8])), trivial⟩)
 ·
  refine Zja ?_
  show DW _ _ _ _ _
  refine stp Lun ?_
  refine Zba ?_
  exact fin 0 (hr := by (try simp only [go_sem, ff]); all_goals (simp only [threeB]; rw [hv, Zra (by omega)]))
end Go.Proofs.YtmkblfajmnhccaaGreatDoor
