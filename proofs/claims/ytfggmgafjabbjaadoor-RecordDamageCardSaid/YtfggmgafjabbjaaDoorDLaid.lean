/-
  THE D LAYER, 21: package-level variables that a row lists: what their cells hold. Conditions: none.
-/
import Derived.Test.YtfggmgafjabbjaaDoorDClaim
import Derived.LaidMore
import Derived.Lay
set_option linter.unusedVariables false
set_option linter.unusedSimpArgs false
namespace Go.DL
open Go.RowKit Go.ChangeShapes Go.WideShapes
variable {P : Program}

def litV : Lit → Value
  | .bool b => .bool b
  | .int k n => .int k n
  | .string s => .string ⟨s.toArray⟩
  | _ => undef
/-- the cells that a datum stands for -/
def litCells {H : Type} : Nat → DataW H → List Value
  | 0, _ => []
  | k + 1, d => match d with
    | .lit l => [litV l]
    | .agg ds => ds.flatMap (litCells k)
    | _ => []
def litB (P : Program) : Nat → TypeId → Bool
  | 0, _ => false
  | k + 1, t => match P.underlying t with
    | some .bool | some (.int _) | some .string => true
    | some (.array _ e) => decide (e < P.types.size) && litB P k e
    | some (.struct fs) => fs.toList.all fun f => decide (f.type < P.types.size) && litB P k f.type
    | _ => false
theorem lits {H : Type} {enc : TypeId × Value → H} {w : World} {base : Nat} {spare : Nat → Bool} {held : Bool} (hl : laidOutB P = true) :
    ∀ (k : Nat) (t : TypeId) (cs : List Value) (fuel : Nat) (x : DataW H × List MemPlace), t < P.types.size → litB P k t = true → DataW.trod enc P w base spare held fuel t cs = some x → cs = litCells k x.1 := by
  intro k
  induction k with
  | zero => intro t cs fuel x _ h; cases h
  | succ k ih =>
    intro t cs fuel x htl hs hr
    unfold litB at hs
    split at hs
    · rename_i hu
      obtain ⟨b, rfl, rfl⟩ := DataW.trod_bool hu hr
      rfl
    · rename_i q hu
      obtain ⟨n, rfl, rfl, _⟩ := DataW.trod_int hu hr
      rfl
    · rename_i hu
      obtain ⟨s, rfl, rfl, _⟩ := DataW.trod_string hu hr
      show [Value.string s] = [Value.string ⟨s.data.toList.toArray⟩]
      simp
    · rename_i n e hu
      simp only [Bool.and_eq_true, decide_eq_true_eq] at hs
      obtain ⟨xs, m, _, rfl, hcl, hxl, hel⟩ := DataW.trod_array hu hr
      obtain ⟨_, hcn⟩ := kid_array hl htl hu
      have key : ∀ (j i : Nat), i + j = n → cs.drop (i * P.cellsOf e) = ((xs.drop i).map (·.1)).flatMap (litCells k) := by
        intro j
        induction j with
        | zero =>
          intro i hi
          have hi' : i = n := by omega
          subst hi'
          rw [← hcn, ← hcl, List.drop_length, ← hxl, List.drop_length]
          rfl
        | succ j ihj =>
          intro i hi
          have hlt : i < xs.length := by omega
          have h1 := hel i (by omega)
          rw [List.getElem?_eq_getElem hlt] at h1
          have h2 := ih e _ m _ hs.1 hs.2 h1
          have h3 := ihj (i + 1) (by omega)
          have e1 : (i + 1) * P.cellsOf e = i * P.cellsOf e + P.cellsOf e := by rw [Nat.succ_mul]
          rw [e1] at h3
          rw [List.drop_eq_getElem_cons hlt, List.map_cons, List.flatMap_cons, ← h3, ← h2]
          exact (take_drop_append cs _ _).symm
      have := key n 0 (by omega)
      simpa [litCells] using this
    · rename_i fs hu
      obtain ⟨xs, n, _, rfl, hcl, hxl, hf⟩ := DataW.trod_struct hu hr
      obtain ⟨_, hsum, hoff⟩ := kid_struct hl htl hu
      simp only [List.all_eq_true, Bool.and_eq_true, decide_eq_true_eq] at hs
      have hxl' : xs.length = fs.toList.length := by simpa using hxl
      have key : ∀ (j i : Nat), i + j = fs.toList.length → cs.drop ((fs.toList.take i).map fun f => P.cellsOf f.type).sum = ((xs.drop i).map (·.1)).flatMap (litCells k) := by
        intro j
        induction j with
        | zero =>
          intro i hi
          have hi' : i = fs.toList.length := by omega
          subst hi'
          rw [List.take_length, ← hsum, ← hcl, List.drop_length, ← hxl', List.drop_length]
          rfl
        | succ j ihj =>
          intro i hi
          have hlt : i < fs.toList.length := by omega
          have hltx : i < xs.length := by omega
          have hfi : fs.toList[i]? = some fs.toList[i] := List.getElem?_eq_getElem hlt
          have h1 := hf i fs.toList[i] (by simp)
          rw [hoff i _ hfi, List.getElem?_eq_getElem hltx] at h1
          have hm := hs _ (List.getElem_mem hlt)
          have h2 := ih _ _ n _ hm.1 hm.2 h1
          have h3 := ihj (i + 1) (by omega)
          have htk : fs.toList.take (i + 1) = fs.toList.take i ++ [fs.toList[i]] := by rw [List.take_add_one, hfi]; rfl
          rw [htk, List.map_append, List.sum_append] at h3
          simp only [List.map_cons, List.map_nil, List.sum_cons, List.sum_nil, Nat.add_zero] at h3
          rw [List.drop_eq_getElem_cons hltx, List.map_cons, List.flatMap_cons, ← h3, ← h2]
          exact (take_drop_append cs _ _).symm
      have := key fs.toList.length 0 (by omega)
      simpa [litCells] using this
    · cases hs
/-- WHAT A LISTED VARIABLE's CELLS HOLD: one variable. -/
theorem laid_one [Glob P] {nm : String} {d : DataW Unit} {W : World} {g : Nat} {t : TypeId} {k : Nat} {cells : List Value} (hl : laidOutB P = true) (hplain : ([(nm, d)].all fun x => x.2.handleName?.isNone) = true)
    (hg : P.globalNamed nm = some g) (ht : (P.globals[g]?).map (·.type) = some t) (htl : t < P.types.size) (hb : litB P k t = true) (hc : litCells k d = cells) (hgl : ∀ x cs, Glob.tab P x = some cs → x = g ∧ cs = cells) (hsz : 0 < cells.length)
    (h : laidMetH P [(nm, d)] W) : Gr P (fun b => b < W.heap.size) W := by
  rw [MakeChecks.laidMetH_plain _ _ _ hplain] at h
  obtain ⟨ps, ⟨g0, t0, cs, fuel, p, q, hg0, ht0, hv, hd, _, _⟩, _, _⟩ := h
  obtain rfl := Option.some.inj (hg.symm.trans hg0)
  obtain rfl := Option.some.inj (ht.symm.trans ht0)
  have hcs := lits hl k t _ _ _ htl hb hd
  rw [show litCells k (d, p).1 = cells from hc] at hcs
  intro x cs' hx
  obtain ⟨rfl, rfl⟩ := hgl x cs' hx
  have hcell := fun j => World.var?_cell hg0 hv j
  have hj : ∀ (j : Nat) v, cs'[j]? = some v → W.cell? ⟨x, j, none⟩ = some v := by
    intro j v hv'
    rw [hcell j]
    obtain ⟨l⟩ := cs
    simp only at hcs
    subst hcs
    simp [hv']
  refine ⟨?_, hj⟩
  have h0 : cs'[0]? = some (cs'[0]'hsz) := List.getElem?_eq_getElem hsz
  have := cells_block (hj 0 _ h0)
  exact this
end Go.DL
