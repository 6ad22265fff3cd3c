/-
  THE D LAYER, 5: operations that read, make and write memory. Conditions: none.
-/
import Derived.Test.YtfggmgafjabbjaaDoorDPure
namespace Go.DL
open Go.RowKit
variable {P : Program}

theorem M_lt [Glob P] {h : H} {g : Mem} {w : World} (hm : HM P h g w) {r b c s : Nat} (e : g.M r = some (some b, c, s)) : b < w.heap.size ∧ ¬ g.I b ∧ ∃ bl, h r = some bl := by
  cases hr : h r with
  | none => rw [hm.dead r hr] at e; cases e
  | some bl =>
    obtain ⟨blk, c', e1, _, _, _, h5⟩ := hm.blk r bl hr
    rw [e] at e1
    simp only [Option.some.injEq, Prod.mk.injEq] at e1
    rcases h5 with ⟨h6, _⟩ | ⟨b', cur, h6, h7, _, h8, _⟩
    · rw [← e1.1] at h6; cases h6
    · rw [← e1.1] at h6; cases h6
      exact ⟨(Array.getElem?_eq_some_iff.1 h7).1, h8, _, rfl⟩

/-- A BLOCK IS WRITTEN OR MADE: name b stands for it from now on; other names may have gone. -/
theorem HM.put [Glob P] {h h' : H} {g : Mem} {w w' : World} (hm : HM P h g w) (b nb c : Nat) (bl : Blk) (cur : Array Value)
    (hb : ¬ g.U b ∨ g.M b = some (some nb, c, P.cellsOf bl.ty)) (hb' : h' b = some bl) (hr : ∀ r, r ≠ b → h' r = h r ∨ h' r = none)
    (hnb : w.heap.size ≤ nb ∨ ∃ r c' s', g.M r = some (some nb, c', s') ∧ (r = b ∨ h' r = none))
    (hcur : w'.heap[nb]? = some (.cells cur bl.ty (0, 0))) (hsz : cur.size = c * P.cellsOf bl.ty) (hpos : 0 < P.cellsOf bl.ty) (hle : bl.rows.length ≤ c) (hmax : c ≤ maxLen)
    (hold : Holds P w g bl cur) (gb : w.grownBy w' (some nb)) (hdr : w.drawn ≤ w'.drawn := by first | exact Nat.le_refl _ | exact Nat.le_succ _) :
    ∃ g' : Mem, g'.M b = some (some nb, c, P.cellsOf bl.ty) ∧ (∀ r, g'.U r ↔ g.U r ∨ r = b) ∧ (∀ b, g'.I b ↔ g.I b) ∧ HM P h' g' w' ∧ Mono g g' w w' := by
  let g' : Mem := { M := fun r => if r = b then some (some nb, c, P.cellsOf bl.ty) else if (h' r).isSome then g.M r else none, U := fun r => g.U r ∨ r = b, I := g.I }
  have e_b : g'.M b = some (some nb, c, P.cellsOf bl.ty) := by simp [g']
  have e_r : ∀ r, r ≠ b → g'.M r = if (h' r).isSome then g.M r else none := fun r hr => by simp [g', hr]
  have hne : ∀ r c' s', r ≠ b → g'.M r ≠ some (some nb, c', s') := by
    intro r c' s' hrb he
    rw [e_r r hrb] at he
    split at he
    · rename_i hs
      rcases hnb with h1 | ⟨r2, c2, s2, h2, h3⟩
      · have := (M_lt hm he).1; omega
      · have : r = r2 := hm.inj _ _ _ _ _ _ _ he h2
        subst this
        rcases h3 with h3 | h3
        · exact hrb h3
        · rw [h3] at hs; cases hs
    · cases he
  have hnI : ¬ g.I nb := by
    intro hi
    rcases hnb with h1 | ⟨r2, c2, s2, h2, _⟩
    · have := hm.imm nb hi; omega
    · exact (M_lt hm h2).2.1 hi
  have mono : Mono g g' w w' := by
    refine ⟨gb.os, gb.tape, gb.output, gb.size, hdr, fun r h => .inl h, fun r hu => ?_, fun r b' c' s' he => ?_, fun _ h => h, fun _ h => .inl h, fun k hk hn => ?_⟩
    · by_cases e : r = b
      · subst e
        rcases hb with h1 | h1
        · exact absurd hu h1
        · rw [e_b, h1]; exact .inl rfl
      · rw [e_r r e]; split
        · exact .inl rfl
        · exact .inr rfl
    · by_cases e : r = b
      · subst e; rw [e_b] at he; simp only [Option.some.injEq, Prod.mk.injEq] at he
        obtain ⟨rfl, _, _⟩ := he
        rcases hnb with h1 | ⟨r2, c2, s2, h2, _⟩
        · exact .inr h1
        · exact .inl ⟨r2, c2, s2, h2⟩
      · rw [e_r r e] at he
        split at he
        · exact .inl ⟨r, c', s', he⟩
        · cases he
    · refine gb.block k hk fun e => ?_
      cases e
      rcases hnb with h1 | ⟨r2, c2, s2, h2, _⟩
      · omega
      · exact hn _ _ _ h2
  refine ⟨g', e_b, fun _ => Iff.rfl, fun _ => Iff.rfl, ⟨fun r hn => ?_, fun r bl' hrl => ?_, fun r r' b' c1 c2 s1 s2 e1 e2 => ?_, fun r hn => ?_, fun k hk => Nat.lt_of_lt_of_le (hm.imm k hk) gb.size, hm.gr.later (hm.kept mono)⟩, mono⟩
  · have e : r ≠ b := fun e => by rw [e, hb'] at hn; cases hn
    rw [e_r r e, hn]; rfl
  · by_cases e : r = b
    · subst e
      rw [hb'] at hrl; cases hrl
      refine ⟨some nb, c, e_b, hpos, hle, hmax, .inr ⟨nb, cur, rfl, hcur, hsz, hnI, fun i row hi => ?_⟩⟩
      obtain ⟨h1, h2⟩ := hold i row hi
      refine ⟨h1, fun j d hd => ?_⟩
      obtain ⟨u, h3, h4, h5⟩ := h2 j d hd
      exact ⟨u, h3, h4, h5.later hm mono⟩
    · rcases hr r e with e1 | e1
      · rw [e1] at hrl
        obtain ⟨blk, c', h1, h2, h3, h4, h5⟩ := hm.blk r bl' hrl
        refine ⟨blk, c', by rw [e_r r e, e1, hrl]; exact h1, h2, h3, h4, ?_⟩
        rcases h5 with h5 | ⟨b', cur', rfl, h6, h7, h8, h9⟩
        · exact .inl h5
        · refine .inr ⟨b', cur', rfl, ?_, h7, h8, fun i row hi => ?_⟩
          · have hb' : b' ≠ nb := fun e2 => by
              subst e2
              exact hne r c' _ e (by rw [e_r r e, e1, hrl]; exact h1)
            rw [gb.block b' (M_lt hm h1).1 (by simpa using hb')]; exact h6
          · obtain ⟨k1, k2⟩ := h9 i row hi
            refine ⟨k1, fun j d hd => ?_⟩
            obtain ⟨u, k3, k4, k5⟩ := k2 j d hd
            exact ⟨u, k3, k4, k5.later hm mono⟩
      · rw [e1] at hrl; cases hrl
  · by_cases e : r = b <;> by_cases e' : r' = b
    · rw [e, e']
    · subst e
      rw [e_b] at e1; simp only [Option.some.injEq, Prod.mk.injEq] at e1
      obtain ⟨rfl, _, _⟩ := e1
      exact absurd e2 (hne r' _ _ e')
    · subst e'
      rw [e_b] at e2; simp only [Option.some.injEq, Prod.mk.injEq] at e2
      obtain ⟨rfl, _, _⟩ := e2
      exact absurd e1 (hne r _ _ e)
    · rw [e_r r e] at e1; rw [e_r r' e'] at e2
      split at e1
      · split at e2
        · exact hm.inj _ _ _ _ _ _ _ e1 e2
        · cases e2
      · cases e1
  · by_cases e : r = b
    · exact .inr e
    · rw [e_r r e] at hn
      split at hn
      · exact .inl (hm.used r hn)
      · exact absurd rfl hn

/-- A NAME FOR A SLICE THAT HAS NO BLOCK YET. -/
theorem HM.putNone [Glob P] {h h' : H} {g : Mem} {w : World} (hm : HM P h g w) (b : Nat) (bl : Blk) (hb : ¬ g.U b) (hb' : h' b = some bl) (hr : ∀ r, r ≠ b → h' r = h r ∨ h' r = none) (hpos : 0 < P.cellsOf bl.ty) (hle : bl.rows = []) :
    ∃ g' : Mem, g'.M b = some (none, 0, P.cellsOf bl.ty) ∧ (∀ r, g'.U r ↔ g.U r ∨ r = b) ∧ (∀ b, g'.I b ↔ g.I b) ∧ HM P h' g' w ∧ Mono g g' w w := by
  let g' : Mem := { M := fun r => if r = b then some (none, 0, P.cellsOf bl.ty) else if (h' r).isSome then g.M r else none, U := fun r => g.U r ∨ r = b, I := g.I }
  have e_b : g'.M b = some (none, 0, P.cellsOf bl.ty) := by simp [g']
  have e_r : ∀ r, r ≠ b → g'.M r = if (h' r).isSome then g.M r else none := fun r hr => by simp [g', hr]
  have mono : Mono g g' w w := by
    refine ⟨rfl, rfl, rfl, Nat.le_refl _, Nat.le_refl _, fun r h => .inl h, fun r hu => ?_, fun r b' c' s' he => ?_, fun _ h => h, fun _ h => .inl h, fun k hk hn => rfl⟩
    · have e : r ≠ b := fun e => hb (e ▸ hu)
      rw [e_r r e]; split
      · exact .inl rfl
      · exact .inr rfl
    · by_cases e : r = b
      · subst e; rw [e_b] at he; cases he
      · rw [e_r r e] at he
        split at he
        · exact .inl ⟨r, c', s', he⟩
        · cases he
  refine ⟨g', e_b, fun _ => Iff.rfl, fun _ => Iff.rfl, ⟨fun r hn => ?_, fun r bl' hrl => ?_, fun r r' b' c1 c2 s1 s2 e1 e2 => ?_, fun r hn => ?_, fun k hk => hm.imm k hk, hm.gr.later (hm.kept mono)⟩, mono⟩
  · have e : r ≠ b := fun e => by rw [e, hb'] at hn; cases hn
    rw [e_r r e, hn]; rfl
  · by_cases e : r = b
    · subst e
      rw [hb'] at hrl; cases hrl
      exact ⟨none, 0, e_b, hpos, by rw [hle]; exact Nat.le_refl _, Nat.zero_le _, .inl ⟨rfl, rfl⟩⟩
    · rcases hr r e with e1 | e1
      · rw [e1] at hrl
        obtain ⟨blk, c', h1, h2, h3, h4, h5⟩ := hm.blk r bl' hrl
        refine ⟨blk, c', by rw [e_r r e, e1, hrl]; exact h1, h2, h3, h4, ?_⟩
        rcases h5 with h5 | ⟨b', cur', rfl, h6, h7, h8, h9⟩
        · exact .inl h5
        · refine .inr ⟨b', cur', rfl, h6, h7, h8, fun i row hi => ?_⟩
          obtain ⟨k1, k2⟩ := h9 i row hi
          refine ⟨k1, fun j d hd => ?_⟩
          obtain ⟨u, k3, k4, k5⟩ := k2 j d hd
          exact ⟨u, k3, k4, k5.later hm mono⟩
      · rw [e1] at hrl; cases hrl
  · by_cases e : r = b
    · subst e; rw [e_b] at e1; cases e1
    · by_cases e' : r' = b
      · subst e'; rw [e_b] at e2; cases e2
      · rw [e_r r e] at e1; rw [e_r r' e'] at e2
        split at e1
        · split at e2
          · exact hm.inj _ _ _ _ _ _ _ e1 e2
          · cases e2
        · cases e1
  · by_cases e : r = b
    · exact .inr e
    · rw [e_r r e] at hn
      split at hn
      · exact .inl (hm.used r hn)
      · exact absurd rfl hn
end Go.DL
