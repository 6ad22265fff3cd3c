/-
  THE D LAYER, 17: ranges over functions: the statement, and the calls of yield. Conditions: none.
-/
import Derived.Test.YtfggmgafjabbjaaDoorDWalk
namespace Go.DL
open Go.RowKit
variable {P : Program} {C : Con} {Q : Exit → S → Prop}

/-- A loop's record, ready (none) or done, with a jump pending. -/
def recAt (r : Loop) (j : Option Code) : Loop := { r with state := if j.isNone then .ready else .done, pending := j }
theorem recAt_at {r : Loop} {i j : Option Code} : recAt (recAt r i) j = recAt r j := rfl
/-- The record of the loop lies there, and its slots are as t says. -/
def Env.loop (l : Nat) (r : Loop) (t : Nat → D) : Env where
  p g w := w.heap[l]? = some (.loop r) ∧ ¬ g.I l ∧ ∀ i, Rep w g (t i) (r.tmps.getD i undef)
  x := some l
  st P _ h g g' w w' hm k := fun ⟨h1, h2, h3⟩ => ⟨noCells_kept hm k h1 (fun c e f => by simp), fun hI => by
      rcases k.inew l hI with e | e | ⟨r, c, s, e⟩
      · exact h2 e
      · have := (Array.getElem?_eq_some_iff.1 h1).1; omega
      · exact noCells_M hm h1 (fun c e f => by simp) r c s e, fun i => (h3 i).later hm k⟩

theorem HM.keptX [Glob P] {h : H} {g g' : Mem} {w w' : World} {l : Nat} (hm : HM P h g w) (k : MonoX (some l) g g' w w') (hl : ¬ g.I l) : ∀ b, g.I b → g'.I b ∧ w'.heap[b]? = w.heap[b]? := by
  refine fun b hb => ⟨k.I b hb, k.same b (hm.imm b hb) (fun r c s e => ?_) (fun e => hl (by cases e; exact hb))⟩
  cases hr : h r with
  | none => rw [hm.dead r hr] at e; cases e
  | some bl =>
    obtain ⟨blk, c', e1, _, _, _, h5⟩ := hm.blk r bl hr
    rw [e] at e1
    simp only [Option.some.injEq, Prod.mk.injEq] at e1
    rcases h5 with ⟨h6, _⟩ | ⟨b', cur, h6, _, _, h7, _⟩
    · rw [← e1.1] at h6; cases h6
    · rw [← e1.1] at h6; cases h6; exact h7 hb
theorem noCells_keptX [Glob P] {h : H} {g g' : Mem} {w w' : World} {l : Nat} (hm : HM P h g w) (k : MonoX (some l) g g' w w') {D : Nat} {o : Obj} (hD : w.heap[D]? = some o) (ho : ∀ c e f, o ≠ .cells c e f) (hl : l ≠ D) : w'.heap[D]? = some o := by
  rw [k.same D (Array.getElem?_eq_some_iff.1 hD).1 (noCells_M hm hD ho) (fun e => hl (by cases e; rfl))]; exact hD
theorem Marks.laterX [Glob P] {h : H} {g g' : Mem} {w w' : World} {l : Nat} (hm : HM P h g w) (k : MonoX (some l) g g' w w') {r : Loop} (hl : w.heap[l]? = some (.loop r)) {B : Nat} : ∀ {ds : List Deferred}, Marks B g ds w → Marks B g' ds w'
  | [], _ => trivial
  | d :: ds, ⟨⟨D, h1, h2, h3, h4, h5⟩, h6⟩ => ⟨⟨D, h1, noCells_keptX hm k h2 (fun c e f => by simp) (fun e => by subst e; rw [hl] at h2; cases h2), h3, h4, fun hI => by
      rcases k.inew D hI with e | e | ⟨r, c, s, e⟩
      · exact h5 e
      · have := (Array.getElem?_eq_some_iff.1 h2).1; omega
      · exact noCells_M hm h2 (fun c e f => by simp) r c s e⟩, h6.laterX hm k hl⟩
/-- a record is turned -/
theorem monoX_put {g : Mem} {w : World} {l : Nat} (o : Obj) : MonoX (some l) g g w (w.putObj l o) :=
  ⟨rfl, rfl, rfl, by simp, Nat.le_refl _, fun _ h => h, fun _ _ => .inl rfl, fun r _ c s h => .inl ⟨r, c, s, h⟩, fun _ h => h, fun _ h => .inl h, fun _ _ _ hx => World.putObj_heap_other (fun e => hx (by rw [e]))⟩
theorem HM.putLoop [Glob P] {h : H} {g : Mem} {w : World} {l : Nat} {r : Loop} (hm : HM P h g w) (hl : w.heap[l]? = some (.loop r)) (hI : ¬ g.I l) (o : Obj) : HM P h g (w.putObj l o) :=
  hm.marks (by simp) (fun k hk => World.putObj_heap_other (fun e => hI (e ▸ hk))) fun k c e f hk => World.putObj_heap_other (fun e' => by subst e'; rw [hl] at hk; cases hk)

def setPs (t : Nat → D) (ps : List Nat) (ds : List D) : Nat → D := (ps.zip ds).foldl (fun t p => upd t p.1 p.2) t
@[go_sem] theorem setPs_nil {t : Nat → D} {ds : List D} : setPs t [] ds = t := rfl
@[go_sem] theorem setPs_cons {t : Nat → D} {p : Nat} {ps : List Nat} {d : D} {ds : List D} : setPs t (p :: ps) (d :: ds) = setPs (upd t p d) ps ds := rfl
theorem setPs_rep {w : World} {g : Mem} : ∀ (ps : List Nat) (ds : List D) (vs : List Value) (t : Nat → D) (tmps : Array Value), Reps w g ds vs → (∀ p ∈ ps, p < tmps.size) → (∀ i, Rep w g (t i) (tmps.getD i undef)) →
    ((ps.zip vs).foldl (fun tmps (p : Nat × Value) => tmps.setIfInBounds p.1 p.2) tmps).size = tmps.size ∧ ∀ i, Rep w g (setPs t ps ds i) (((ps.zip vs).foldl (fun tmps (p : Nat × Value) => tmps.setIfInBounds p.1 p.2) tmps).getD i undef)
  | [], _, _, _, _, _, _, h => ⟨rfl, h⟩
  | p :: ps, ds, vs, t, tmps, hr, hp, h => by
    cases ds with
    | nil => rw [hr.of_nil]; exact ⟨rfl, h⟩
    | cons d ds =>
      obtain ⟨x, xs, rfl, h1, h2⟩ := hr.of_cons
      have := setPs_rep ps ds xs (upd t p d) (tmps.setIfInBounds p x) h2 (fun q hq => by simpa using hp q (by simp [hq])) (fun i => by
        by_cases e : i = p
        · subst e
          have hlt := hp i (by simp)
          rw [upd_same]
          simpa [hlt] using h1
        · rw [upd_ne _ _ _ _ e]
          have : (tmps.setIfInBounds p x).getD i undef = tmps.getD i undef := by simp [Ne.symm e]
          rw [this]; exact h i)
      refine ⟨by simpa using this.1, this.2⟩

/-- **A REGION THAT CALLS yield**: number k of its operations; the rounds' body is walked there. -/
theorem dw_yield [Glob P] {s s1 : S} {id : Nat} {ops : Array Oper} (k : Nat) {o : Oper} {f : Operand} {args : Array Operand} {ts : Array TypeId} {l : Nat} {r : Loop} {t : Nat → D} {xs : List D}
    (ho : ops[k]? = some o) (hop : o.op = .call { callee := .value f, args := args, argTypes := ts }) (hg : o.guard = none) (hse : s.e = Env.loop l (recAt r none) t)
    (he : execFrom P (words P) C ops.toList s.nx 0 (ops.toList.take k) { n := s.n, t := s.t, h := s.h, nx := s.nx + k, ok := s.ok, e := s.e } = s1) (hok : s1.ok) (hd : dstOk s1.n o.dst = true)
    (hf : s1.ev f = .fn (.yield l) [] []) (hxg : (args.toList.map s1.ev).all sg = true) (hx : (args.toList.map s1.ev).map sd = xs) (hps : xs.length = r.params.size) (hpn : ∀ p ∈ r.params.toList, p < r.tmps.size)
    (hbody : DW P (some l) r.assign (thenS (fun s2 => s2.e = Env.tt ∧ DW P (some l) r.body (fun e s' => s'.e = Env.tt ∧ ∃ b j, (match e with | .normal => b = true ∧ j = none | .ret => b = false ∧ j = some .ret | .exit i => b = false ∧ j = some (.exit i) | _ => False) ∧
        ∃ s2, execFrom P (words P) C ops.toList s'.nx (k + 1) (ops.toList.drop (k + 1)) { n := s1.n, t := s1.put o.dst (.v (.bool b)), h := s'.h, nx := s'.nx + ops.size, ok := True, e := Env.loop l (recAt r j) t } = s2 ∧ s2.ok ∧ Q .normal s2.clear) s2) (fun _ _ => False))
      { n := r.tmps.size, t := setPs t r.params.toList xs, h := s1.h, nx := s.nx + k }) :
    DW P none (.region id ops false) Q s := by
  intro B g a w hs hU
  have hlt : k < ops.size := (Array.getElem?_eq_some_iff.1 ho).1
  have hex : ∀ (l : List Oper) (i b : Nat) (u : S), (execFrom P (words P) C ops.toList b i l u).e = u.e := by
    intro l
    induction l with
    | nil => intro i b u; rfl
    | cons x l ih =>
      intro i b u
      simp only [execFrom]
      rw [ih]
      unfold exec1
      split <;> rfl
  have hnxx : ∀ (l : List Oper) (i b : Nat) (u : S), (execFrom P (words P) C ops.toList b i l u).nx = u.nx := by
    intro l
    induction l with
    | nil => intro i b u; rfl
    | cons x l ih => intro i b u; simp only [execFrom]; rw [ih, exec1_n.2]
  refine wpIn_region ?_
  have hr : List.range ops.size = List.range' 0 k ++ (k :: List.range' (k + 1) (ops.size - (k + 1))) := by
    rw [List.range_eq_range']
    have : ops.size = k + ((ops.size - (k + 1)) + 1) := by omega
    conv => lhs; rw [this]
    rw [← List.range'_append_1, List.range'_succ]
    simp
  rw [hr]
  have hs0 : St P B { n := s.n, t := s.t, h := s.h, nx := s.nx + k, ok := s.ok, e := s.e } g a w := ⟨hs.sz, hs.tm, hs.mem, hs.df, hs.en, hs.bd⟩
  have e0 : (ops.toList.drop 0).take k = ops.toList.take k := rfl
  refine execSeg_sound (C := C) (b := s.nx) k 0 _ g a w hs0 (Mono.refl _ _) (fun r hr => by have := hU r hr; omega) (by omega) (by rw [e0, he]; exact hok) fun g1 a1 w1 hs1 hm1 hU1 => ?_
  rw [e0, he] at hs1
  have hs1e : s1.e = Env.loop l (recAt r none) t := by
    have h6 := hex (ops.toList.take k) 0 s.nx { n := s.n, t := s.t, h := s.h, nx := s.nx + k, ok := s.ok, e := s.e }
    rw [he] at h6
    rw [h6]; exact hse
  obtain ⟨hl1, hI1, ht1⟩ : (Env.loop l (recAt r none) t).p g1 w1 := by rw [← hs1e]; exact hs1.en
  rw [wpOpsIn_cons]
  unfold wpOpIn
  rw [ho]
  simp only
  have hw : Region.wanted o (yielded ops a1.tmps) = true := by simp [Region.wanted, hg]
  rw [if_pos hw]
  have hdef : ∀ c, o.op ≠ .defer c := by intro c e; rw [e] at hop; cases hop
  have hsem : o.semAt (Fw none).round a1.eval = execOp a1.eval o := Oper.semAt_eq _ _ _ hdef
  refine ⟨fun _ _ => trivial, ?_⟩
  rw [hsem]
  have hfr := ev_rep hs1 f
  rw [hf] at hfr
  have hxr := strips_rep (evs_rep hs1 args.toList) hxg
  rw [hx] at hxr
  generalize hv : a1.eval f = vf at hfr
  cases hfr with | fn _ _ _ fs cs l1 l2 r1 r2 =>
  have hfs : fs = #[] := by apply Array.eq_empty_of_size_eq_zero; simpa using l1.symm
  have hcs : cs = #[] := by apply Array.eq_empty_of_size_eq_zero; simpa using l2.symm
  subst hfs; subst hcs
  have hsz : (args.map a1.eval).size = (recAt r none).params.size := by
    have h1 := hxr.1
    show (args.map a1.eval).size = r.params.size
    rw [← hps, h1]; simp
  have hrun : (execOp a1.eval o).run P w1 = .ok (.round l r.fn ((r.params.zip (args.map a1.eval)).foldl (fun tmps (t, a) => tmps.setIfInBounds t a) r.tmps) r.assign r.body) w1 := by
    have := run_yield (P := P) (w := w1) (l := l) (r := recAt r none) (args := args.map a1.eval) hl1 hsz
    have e1 : (execOp a1.eval o).run P w1 = (Instr.yield l (args.map a1.eval)).run P w1 := by simp [execOp, hop, resolve, Deferred.ofValue, hv, invoke]
    rw [e1]; exact this
  rw [hrun, Oper.uponIn_round]
  refine ⟨fun h => by simp [Fw, Fence.wide] at h, ?_⟩
  obtain ⟨hz1, hz2⟩ := setPs_rep r.params.toList xs _ t r.tmps hxr hpn ht1
  have hzip : (r.params.zip (args.map a1.eval)).foldl (fun tmps (t, a) => tmps.setIfInBounds t a) r.tmps = (r.params.toList.zip (args.toList.map a1.eval)).foldl (fun tmps (p : Nat × Value) => tmps.setIfInBounds p.1 p.2) r.tmps := by
    rw [← Array.foldl_toList]; simp
  rw [hzip]
  generalize (r.params.toList.zip (args.toList.map a1.eval)).foldl (fun tmps (p : Nat × Value) => tmps.setIfInBounds p.1 p.2) r.tmps = tm at hz1 hz2
  have hsb : St P 0 { n := r.tmps.size, t := setPs t r.params.toList xs, h := s1.h, nx := s.nx + k } g1 { tmps := tm, defers := [] } w1 := ⟨hz1, hz2, hs1.mem, trivial, trivial, Nat.zero_le _⟩
  refine roundIn_of_wpIn trivial (wpIn_mono (hbody 0 g1 _ w1 hsb (fun r hr => by have := hU1 r hr; show r < s.nx + k; omega)) ?_)
  rintro e a2 w2 ⟨s2, g2, hq, hs2, hm2, hU2, hx2⟩
  cases e with
  | normal =>
    have hm2' : Mono g1 g2 w1 w2 := hm2.out
    have hl2 := noCells_kept hs1.mem hm2' hl1 (fun c e f => by simp)
    have hI2 : ¬ g2.I l := fun hI => by
      rcases hm2'.inew l hI with e | e | ⟨r, c, s, e⟩
      · exact hI1 e
      · have := (Array.getElem?_eq_some_iff.1 hl1).1; omega
      · exact noCells_M hs1.mem hl1 (fun c e f => by simp) r c s e
    refine ⟨_, run_beginRound hl2 rfl, ?_⟩
    have hlt2 : l < w2.heap.size := (Array.getElem?_eq_some_iff.1 hl2).1
    obtain ⟨he2, hbd⟩ := hq
    have hb2 : St P 0 s2 g2 a2 (w2.putObj l (.loop { recAt r none with state := .busy })) := by
      refine ⟨hs2.sz, fun i => (hs2.tm i).mono (fun b hb => ⟨hb, World.putObj_heap_other (fun e => hI2 (by rw [← e]; exact hb))⟩) (fun _ h => h) (fun _ _ => .inl rfl), hs2.mem.putLoop hl2 hI2 _, hs2.df.laterX hs2.mem (monoX_put _) hl2, ?_, Nat.zero_le _⟩
      rw [he2]; trivial
    refine wpIn_mono (hbd 0 g2 a2 _ hb2 hU2) ?_
    rintro e a3 w3 ⟨s3, g3, ⟨_, b, j, hcase, s4, e4, ok4, hQ⟩, hs3, hm3, hU3, _⟩
    rw [he2] at hm3
    have hm3' := hm3.out
    have hl2' : (w2.putObj l (.loop { recAt r none with state := .busy })).heap[l]? = some (.loop { recAt r none with state := .busy }) := World.putObj_heap_same hlt2
    have hl3 := noCells_kept hb2.mem hm3' hl2' (fun c e f => by simp)
    have hI3 : ¬ g3.I l := fun hI => by
      rcases hm3'.inew l hI with e | e | ⟨r, c, s, e⟩
      · exact hI2 e
      · simp at e; omega
      · exact noCells_M hb2.mem hl2' (fun c e f => by simp) r c s e
    have hlt3 : l < w3.heap.size := (Array.getElem?_eq_some_iff.1 hl3).1
    have fin : b = j.isNone → ∃ v w', (Instr.endRound l j).run P w3 = .ok v w' ∧ (fun e w'' => match e with
        | Ending.returned v => wpOpsIn (Fw none) 0 P ops (fun e a' w' => ∃ s' g', Q e s' ∧ St P B s' g' a' w' ∧ MonoX s.e.x g g' w w' ∧ (∀ r, g'.U r → r < s'.nx) ∧ s'.e.x = s.e.x) (List.range' (k + 1) (ops.size - (k + 1))) (a1.put o.dst v) w''
        | Ending.panicked chain => ∃ s' g', Q (.panic chain) s' ∧ St P B s' g' a1 w'' ∧ MonoX s.e.x g g' w w'' ∧ (∀ r, g'.U r → r < s'.nx) ∧ s'.e.x = s.e.x
        | Ending.outgrown => LetsOut (fun e a' w' => ∃ s' g', Q e s' ∧ St P B s' g' a' w' ∧ MonoX s.e.x g g' w w' ∧ (∀ r, g'.U r → r < s'.nx) ∧ s'.e.x = s.e.x)) (.returned v) w' := by
      rintro rfl
      refine ⟨_, _, run_endRound j hl3, ?_⟩
      have mX : MonoX (some l) g1 g3 w1 (w3.putObj l (.loop (recAt r j))) := hm2'.toX.trans ((monoX_put _).trans (hm3'.toX.trans (monoX_put _)))
      have kept := hs1.mem.keptX mX hI1
      have hbase : St P B { n := s1.n, t := s1.t, h := s3.h, nx := s3.nx + ops.size, ok := True, e := Env.loop l (recAt r j) t } g3 a1 (w3.putObj l (.loop (recAt r j))) :=
        ⟨hs1.sz, fun i => (hs1.tm i).mono kept mX.U mX.M, hs3.mem.putLoop hl3 hI3 _, hs1.df.laterX hs1.mem mX hl1, ⟨World.putObj_heap_same hlt3, hI3, fun i => (ht1 i).mono kept mX.U mX.M⟩, Nat.le_trans hs1.bd mX.size⟩
      have hput := put_st hbase (Mono.refl _ _) hbase.mem hd (.v (.bool j.isNone)) True
      have e3 : (ops.toList.drop (k + 1)).take (ops.size - (k + 1)) = ops.toList.drop (k + 1) := List.take_of_length_le (by simp)
      have := execSeg_sound (ro := none) (P := P) (C := C) (B := B) (ops := ops) (b := s3.nx) (n := 0) (rest := []) (g0 := g3) (w0 := w3.putObj l (.loop (recAt r j))) (Q := fun e a' w' => ∃ s' g', Q e s' ∧ St P B s' g' a' w' ∧ MonoX s.e.x g g' w w' ∧ (∀ r, g'.U r → r < s'.nx) ∧ s'.e.x = s.e.x) (ops.size - (k + 1)) (k + 1) _ g3 _ _ hput (Mono.refl _ _) (fun r hr => by have := hU3 r hr; omega) (by omega)
        (by rw [e3]; exact e4 ▸ ok4) fun g'' a'' w'' p1 p2 p3 => by
          rw [e3] at p1
          have p1 : St P B s4 g'' a'' w'' := e4 ▸ p1
          have hx : s.e.x = some l := by rw [hse]; rfl
          refine ⟨_, g'', hQ, p1.clear, ?_, fun r' hr' => ?_, ?_⟩
          · rw [hx]; exact hm1.toX.trans (mX.trans p2.toX)
          · have h3 := p3 r' hr'
            have h4 := hnxx (ops.toList.drop (k + 1)) (k + 1) s3.nx { n := s1.n, t := s1.put o.dst (.v (.bool j.isNone)), h := s3.h, nx := s3.nx + ops.size, ok := True, e := Env.loop l (recAt r j) t }
            rw [e4] at h4
            show r' < s4.nx
            rw [h4]
            show r' < s3.nx + ops.size
            omega
          · have h5 := hex (ops.toList.drop (k + 1)) (k + 1) s3.nx { n := s1.n, t := s1.put o.dst (.v (.bool j.isNone)), h := s3.h, nx := s3.nx + ops.size, ok := True, e := Env.loop l (recAt r j) t }
            rw [e4] at h5
            show s4.e.x = s.e.x
            rw [h5, hx]; rfl
      rw [List.append_nil] at this
      exact this
    cases e with
    | normal => obtain ⟨rfl, rfl⟩ := hcase; exact fin rfl
    | ret => obtain ⟨rfl, rfl⟩ := hcase; exact fin rfl
    | exit i => obtain ⟨rfl, rfl⟩ := hcase; exact fin rfl
    | _ => exact hcase.elim
  | _ => exact hq.elim

theorem HM.lay [Glob P] {h : H} {g : Mem} {w : World} (hm : HM P h g w) (o : Obj) : HM P h g (w.alloc o) ∧ Mono g g w (w.alloc o) := by
  have mono : Mono g g w (w.alloc o) :=
    ⟨rfl, rfl, rfl, by simp, Nat.le_refl _, fun _ h => h, fun _ _ => .inl rfl, fun r b c s h => .inl ⟨r, c, s, h⟩, fun _ h => h, fun b h => .inl h, fun b hb _ => Below.heap_alloc w o b hb⟩
  refine ⟨⟨hm.dead, fun r bl hr => ?_, hm.inj, hm.used, fun b hb => Nat.lt_of_lt_of_le (hm.imm b hb) (by simp), hm.gr.later (hm.kept mono)⟩, mono⟩
  obtain ⟨blk, c, h1, h2, h3, h4, h5⟩ := hm.blk r bl hr
  refine ⟨blk, c, h1, h2, h3, h4, ?_⟩
  rcases h5 with h5 | ⟨b, cur, rfl, h6, h7, h8, h9⟩
  · exact .inl h5
  · have hlt := (M_lt hm h1).1
    refine .inr ⟨b, cur, rfl, by rw [Below.heap_alloc w o b hlt]; exact h6, h7, h8, fun i row hi => ⟨(h9 i row hi).1, fun j d hd => ?_⟩⟩
    obtain ⟨u, k3, k4, k5⟩ := (h9 i row hi).2 j d hd
    exact ⟨u, k3, k4, k5.later hm mono⟩

/-- **A RANGE OVER A FUNCTION**: the function's body is walked, with yield in its hands. -/
theorem dw_rangeFunc [Glob P] {s : S} {gf : Operand} {ps : Array Tmp} {assign body : Code} {f : FuncId} {fn : Func} {c : Code} {first caps : List D} (he : s.e = Env.tt) (hev : s.ev gf = .fn (.func f) first caps) (hf : P.funcs[f]? = some fn) (hb : fn.body = some c) (hbd : hasBody P f = true)
    (hn : (first ++ [D.fn (.yield 0) [] []] ++ caps).length ≤ fn.ntmps) (hres : fn.results = #[])
    (walk : ∀ l r, r.params = ps → r.assign = assign → r.body = body → r.tmps.size = s.n → DW P none c (fun e s' => (e = .normal ∨ e = .ret) ∧ ∃ j, s'.e = Env.loop l (recAt r j) s.t ∧
        (match j with | none => Q .normal { n := s.n, t := s.t, h := s'.h, nx := s'.nx } | some .ret => Q .ret { n := s.n, t := s.t, h := s'.h, nx := s'.nx } | some (.exit i) => Q (.exit i) { n := s.n, t := s.t, h := s'.h, nx := s'.nx } | _ => False))
      { n := fn.ntmps, t := fun i => (first ++ [D.fn (.yield l) [] []] ++ caps).getD i .junk, h := s.h, nx := s.nx, e := Env.loop l (recAt r none) s.t }) : DW P none (.rangeFunc gf ps assign body) Q s := by
  intro B g a w hs hU
  refine wpIn_rangeFunc fun fn' _ => ?_
  let Dk := w.heap.size
  let l := w.heap.size + 1
  let r : Loop := { state := .ready, pending := none, fn := fn', tmps := a.tmps, params := ps, assign := assign, body := body, defers := w.heap.size }
  let w1 := (w.alloc (.deferred (some []))).alloc (.loop r)
  have hfr := ev_rep hs gf
  rw [hev] at hfr
  generalize hv : a.eval gf = vf at hfr
  cases hfr with | fn _ _ _ fs cs l1 l2 r1 r2 =>
  obtain ⟨q1, q2⟩ := hs.mem.lay (.deferred (some []))
  obtain ⟨q3, q4⟩ := q1.lay (.loop r)
  have mono1 : Mono g g w w1 := q2.trans q4
  have hl1 : w1.heap[l]? = some (.loop r) := by
    have := World.alloc_heap_new (w.alloc (.deferred (some []))) (.loop r)
    simpa [l, w1] using this
  have hD1 : w1.heap[Dk]? = some (.deferred (some [])) := by
    have h1 := World.alloc_heap_new w (.deferred (some []))
    have h2 := Below.heap_alloc (w.alloc (.deferred (some []))) (.loop r) Dk (by simp [Dk])
    exact h2.trans h1
  have hsz1 : w1.heap.size = w.heap.size + 2 := by simp [w1]
  have hIl : ¬ g.I l := fun h => by have := hs.mem.imm l h; simp [l] at this; omega
  have hID : ¬ g.I Dk := fun h => by have := hs.mem.imm Dk h; simp [Dk] at this
  refine ⟨l, _, w1, ⟨.fn (.func f) cs, fs ++ #[.func (.yield l) #[] #[]]⟩, w1, f, fs ++ #[.func (.yield l) #[] #[]] ++ cs, w1, run_enterLoop_outer _ _ _ _ _, ?_, fun _ _ => trivial, ?_, fun h => by simp [Fw, Fence.wide] at h, ?_⟩
  · have : a.eval (.const (Value.func (.yield l) #[] #[])) = Value.func (.yield l) #[] #[] := rfl
    simp [resolve, Deferred.ofValue, hv, this]
  · simp [invoke, callFunc_run hbd]
  have hargs : Reps w1 g (first ++ [D.fn (.yield l) [] []] ++ caps) (fs.toList ++ [Value.func (.yield l) #[] #[]] ++ cs.toList) := by
    refine Reps.append (Reps.append ⟨by simpa using l1, fun i d x h1 h2 => (r1 i d x h1 (by simpa using h2)).later hs.mem mono1⟩ (.cons (x := Value.func (.yield l) #[] #[]) (.fn (.yield l) [] [] #[] #[] rfl rfl (fun _ _ _ h => by simp at h) (fun _ _ _ h => by simp at h)) .nil)) ⟨by simpa using l2, fun i d x h1 h2 => (r2 i d x h1 (by simpa using h2)).later hs.mem mono1⟩
  have e : fs ++ #[.func (.yield l) #[] #[]] ++ cs = (fs.toList ++ [Value.func (.yield l) #[] #[]] ++ cs.toList).toArray := by apply Array.ext'; simp
  rw [e]
  have hn' : (first ++ [D.fn (.yield l) [] []] ++ caps).length ≤ fn.ntmps := by simpa using hn
  have hinit := init_st (P := P) (n := fn.ntmps) hargs hn' q3 (nx := s.nx)
  have hst : St P w1.heap.size { n := fn.ntmps, t := fun i => (first ++ [D.fn (.yield l) [] []] ++ caps).getD i .junk, h := s.h, nx := s.nx, e := Env.loop l (recAt r none) s.t } g _ w1 :=
    ⟨hinit.sz, hinit.tm, hinit.mem, hinit.df, ⟨hl1, hIl, fun i => (hs.tm i).later hs.mem mono1⟩, hinit.bd⟩
  refine callsIn_Fw (callsIn_of_wp_marks (n := 0) hf hb trivial (wpIn_mono (F := Fence.wide) (walk l r rfl rfl rfl hs.sz w1.heap.size g _ w1 hst hU) ?_))
  rintro e a' w' ⟨s', g', ⟨hne, j, hse, hq⟩, hs', hm', hU', _⟩
  have hm' : MonoX (some l) g g' w1 w' := hm'
  obtain ⟨hl', hIl', _⟩ : (Env.loop l (recAt r j) s.t).p g' w' := by rw [← hse]; exact hs'.en
  have hlast : LeavesInM Fence.wide 0 P fn a'.tmps (rangePost (Fw none) 0 P l (fun e a' w' => ∃ s' g', Q e s' ∧ St P B s' g' a' w' ∧ MonoX s.e.x g g' w w' ∧ (∀ r, g'.U r → r < s'.nx) ∧ s'.e.x = s.e.x) { a with defers := [{ target := .collected w.heap.size, args := #[] }] ++ a.defers }) a'.defers .returning w' := by
    refine leaves_marks (P := P) a'.defers w' hs'.df fun w2 e0 e1 e2 e3 e4 e5 e6 e7 => ?_
    refine ⟨.tuple #[], by simp [results, hres], ?_⟩
    have hll : l < w1.heap.size := by rw [hsz1]; simp [l]
    have hl2 : w2.heap[l]? = some (.loop (recAt r j)) := by rw [e5 l hll]; exact hl'
    have hl2lt : l < w2.heap.size := (Array.getElem?_eq_some_iff.1 hl2).1
    refine ⟨_, _, run_endLoop hl2 (by cases j <;> simp [recAt]), ?_⟩
    have same4 : ∀ b, b ≠ l → b < w1.heap.size → (w2.putObj l (.loop { recAt r j with state := .exhausted })).heap[b]? = w'.heap[b]? := fun b h1 h2 => by
      rw [World.putObj_heap_other h1, e5 b h2]
    have kept : ∀ b, g.I b → g'.I b ∧ (w2.putObj l (.loop { recAt r j with state := .exhausted })).heap[b]? = w.heap[b]? := fun b hb => by
      obtain ⟨k1, k2⟩ := q3.keptX hm' hIl b hb
      refine ⟨k1, ?_⟩
      rw [same4 b (fun e => hIl (e ▸ hb)) (q3.imm b hb), k2]
      exact (hs.mem.kept mono1 b hb).2
    have hIDk' : ¬ g'.I Dk := fun hI => by
      rcases hm'.inew Dk hI with e | e | ⟨r, c, s, e⟩
      · exact hID e
      · rw [hsz1] at e; simp [Dk] at e; omega
      · exact noCells_M q3 hD1 (fun c e f => by simp) r c s e
    have marks : ∀ ds : List Deferred, Marks B g ds w → (∀ d ∈ ds, d.target ≠ .collected Dk) ∧ Marks B g' ds (w2.putObj l (.loop { recAt r j with state := .exhausted })) := by
      intro ds
      induction ds with
      | nil => intro _; exact ⟨fun _ h => by simp at h, trivial⟩
      | cons d ds ih =>
        rintro ⟨⟨Dd, h1, h2, h3, h4, h5⟩, h6⟩
        obtain ⟨i1, i2⟩ := ih h6
        have hlt : Dd < w.heap.size := (Array.getElem?_eq_some_iff.1 h2).1
        have hne : Dd ≠ l := by simp [l]; omega
        have h21 : w1.heap[Dd]? = some (.deferred (some [])) := noCells_kept hs.mem mono1 h2 (fun c e f => by simp)
        refine ⟨fun d' hd' => ?_, ⟨Dd, h1, ?_, h3, h4, fun hI => ?_⟩, i2⟩
        · rcases List.mem_cons.1 hd' with rfl | h
          · rw [h1]; intro e; cases e; simp [Dk] at hlt
          · exact i1 d' h
        · rw [same4 Dd hne (by rw [hsz1]; omega)]
          exact noCells_keptX q3 hm' h21 (fun c e f => by simp) (Ne.symm hne)
        · rcases hm'.inew Dd hI with e | e | ⟨r, c, s, e⟩
          · exact h5 e
          · rw [hsz1] at e; omega
          · exact noCells_M q3 h21 (fun c e f => by simp) r c s e
    obtain ⟨mk1, mk2⟩ := marks a.defers hs.df
    have fin : St P B { n := s.n, t := s.t, h := s'.h, nx := s'.nx } g' { a with defers := [{ target := .collected w.heap.size, args := #[] }] ++ a.defers } (w2.putObj l (.loop { recAt r j with state := .exhausted })) := by
      refine ⟨hs.sz, fun i => (hs.tm i).mono kept hm'.U hm'.M, (hs'.mem.marks e4 e6 e7).putLoop hl2 hIl' _, ⟨⟨Dk, rfl, ?_, mk1, hs.bd, hIDk'⟩, mk2⟩, trivial, ?_⟩
      · rw [same4 Dk (by simp [Dk, l]) (by rw [hsz1]; simp [Dk])]
        exact noCells_keptX q3 hm' hD1 (fun c e f => by simp) (by simp [Dk, l])
      · simp only [World.putObj_size]
        rw [e4]
        exact Nat.le_trans hs.bd (Nat.le_trans mono1.size hm'.size)
    have mono4 : MonoX s.e.x g g' w (w2.putObj l (.loop { recAt r j with state := .exhausted })) := by
      refine ⟨by show w2.os = _; rw [e1, hm'.os, mono1.os], by show w2.tape = _; rw [e2, hm'.tape, mono1.tape], by show w2.output = _; rw [e3, hm'.output, mono1.output], by simp only [World.putObj_size]; rw [e4]; exact Nat.le_trans mono1.size hm'.size, by show w.drawn ≤ w2.drawn; rw [e0]; exact Nat.le_trans mono1.drawn hm'.drawn, hm'.U, hm'.M, fun r b c s h => ?_, hm'.I, fun b h => ?_, fun b h1 h2 _ => ?_⟩
      · rcases hm'.new r b c s h with h | h
        · exact .inl h
        · exact .inr (Nat.le_trans mono1.size h)
      · rcases hm'.inew b h with h | h | h
        · exact .inl h
        · exact .inr (.inl (Nat.le_trans mono1.size h))
        · exact .inr (.inr h)
      · have hne : b ≠ l := by simp [l]; omega
        rw [same4 b hne (by rw [hsz1]; omega), hm'.same b (by rw [hsz1]; omega) h2 (fun e => hne (by cases e; rfl))]
        exact mono1.same b h1 h2
    have hx : ({ n := s.n, t := s.t, h := s'.h, nx := s'.nx } : S).e.x = s.e.x := by rw [he]
    match j, hq with
    | none, hq => exact ⟨_, g', hq, fin, mono4, hU', hx⟩
    | some .ret, hq => exact wpIn_ret ⟨_, g', hq, fin, mono4, hU', hx⟩
    | some (.exit i), hq => exact wpIn_exit ⟨_, g', hq, fin, mono4, hU', hx⟩
  rcases hne with rfl | rfl <;> exact hlast
end Go.DL
