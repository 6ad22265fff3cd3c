import Derived.Test.YtfggmgafjabbjaaDoorLwW2
namespace Go.Proofs.YtfggmgafjabbjaaDoor
open Go.DL Go.Str Go.Rec Go.Cmp Go.RowKit
set_option maxRecDepth 10000
set_option linter.unusedSimpArgs false
set_option linter.unusedVariables false
theorem _root_.Go.DL.PureCt.rct_frz {P : Program} [Glob P] {f : FuncId} {rows rows' : List (List D)} {res : D} (k : PureCt P f [.list false rows'] res) {h : H} {r off len : Nat} {ty : TypeId} (hr : h r = some ⟨ty, rows⟩) (hl : off + len ≤ rows.length) (hn : nrr rows = true) (he : (rows.drop off).take len = rows') (n : Nat) :
    RCt P f [.mrow r off len] h n (fun d h' n' => d = res ∧ h' = upd h r none ∧ n' = n) := by
  have k2 := k.rct (upd h r none) n
  refine ⟨k2.1, fun w g vs hm hU hrp => ?_⟩
  obtain ⟨v, l, rfl, h1, h2⟩ := hrp.of_cons
  rw [h2.of_nil]
  have hf := frz_rep hm hr hn hl h1
  rw [he] at hf
  have := k2.2 w (frzMem g r) [v] (frz_hm hm r) hU (Reps.cons hf .nil)
  refine this.mono ?_
  rintro e w' ⟨v', g'', res', h'', n'', hR, rfl, q1, q2, q3, q4⟩
  exact ⟨v', g'', res', h'', n'', hR, rfl, q1, q2, (frz_mono g r w).trans q3, q4⟩
theorem sameStr_self (x : Str) : sameStr x x = true := by simp [sameStr]
theorem sameB_self (x : RSet) : sameB x x = true := by simp [sameB]
theorem setB_pos (s : RSet) : 0 < (setB s).length := by
  have : setB s = lenB s.name.length :: (s.name ++ be8 s.ty ++ be8 s.life ++ lenB s.data.length :: s.data.flatMap datB) := by simp [setB, textB]
  rw [this]; simp
theorem setB_len {s : RSet} (h : SetOk s) : (setB s).length ≤ 1000 := by
  have h1 := nameOk_len h.name
  have key : ∀ l : List Dat, (∀ d ∈ l, d.t.length ≤ 60) → (l.flatMap datB).length ≤ l.length * 77 := by
    intro l
    induction l with
    | nil => intro _; simp
    | cons d l ih =>
      intro hd
      have h2 := ih fun x hx => hd x (by simp [hx])
      have h3 := hd d (by simp)
      simp only [List.flatMap_cons, List.length_append, datB, textB, List.length_cons, be8_len]
      omega
  have h4 := key s.data fun d hd => (datOk_sz h.ty (h.dat d hd)).2.1
  have h5 := h.len
  simp only [setB, List.length_append, textB, List.length_cons, be8_len]
  omega
theorem read_all {s : RSet} (h : SetOk s) (more : Str) : ((readF (setB s ++ more)).2 == 0) = decide ((more.length : Int) = 0) := by
  cases more with
  | nil => rw [List.append_nil, read_bytes h]; rfl
  | cons c r => rw [read_more h (by simp)]; simp; omega
theorem bo4 : hasBody Tryd.prog 4 = true := by kernel_rfl
set_option maxHeartbeats 2000000 in
theorem lawBytes_ct (s : RSet) (cut : Int) (more : Str) (x : Str) (hcut : 0 ≤ cut ∧ cut < 65536) : PureCt Tryd.prog 4 [.agg s.d, .v (.int .u16 cut), .list false (more.map bD), .list false (x.map bD)] (.b true) := by
  refine pure_of_dw Tryd.func4 rfl bo4 (by simp [go_sem, D.nr, nrs, nrr]) (by simp [Tryd.f4]) ?_
  unfold Tryd.f4
  simp only [init_eq]
  have hss : sets1 (.list false [[.v (.string (bs s.name)), .v (.int .i64 s.ty), .v (.int .i64 s.life), .list false (s.data.map Dat.d)]]) = [s] := sets1_map (l := [s])
  refine dw_step (C := Ln) (by simp only [go_sem, hss, sameStr_self, sameB_self, bne_self_eq_false, Bool.false_or, beq_self_eq_true]; exact rfl) (fun h => by cases h) ?_ ?_
  · try simp only [go_sem, hss, sameStr_self, sameB_self, bne_self_eq_false, Bool.false_or, beq_self_eq_true]
    all_goals (first | done | (repeat' (with_reducible apply And.intro)) <;> first | omega | (with_reducible assumption) | (intros; omega) | (intros; simp only [decide_eq_true_eq, decide_eq_false_iff_not, Bool.or_eq_true, Bool.and_eq_true, Bool.or_eq_false_iff, Bool.not_eq_true', Bool.not_eq_false'] at *; omega) | (simp_all; done) | (simp_all; omega))
  refine dw_step (C := Ln) (by simp only [go_sem, hss, sameStr_self, sameB_self, bne_self_eq_false, Bool.false_or, beq_self_eq_true]; exact rfl) (fun h => by cases h) ?_ ?_
  · try simp only [go_sem, hss, sameStr_self, sameB_self, bne_self_eq_false, Bool.false_or, beq_self_eq_true]
    all_goals (first | done | exact head02_ct)
  refine dw_seq ?_
  refine dw_step (C := Ln) (by simp only [go_sem, hss, sameStr_self, sameB_self, bne_self_eq_false, Bool.false_or, beq_self_eq_true]; exact rfl) (fun h => by cases h) ?_ ?_
  · try simp only [go_sem, hss, sameStr_self, sameB_self, bne_self_eq_false, Bool.false_or, beq_self_eq_true]
    all_goals (first | done | (repeat' (with_reducible apply And.intro)) <;> first | omega | (with_reducible assumption) | (intros; omega) | (intros; simp only [decide_eq_true_eq, decide_eq_false_iff_not, Bool.or_eq_true, Bool.and_eq_true, Bool.or_eq_false_iff, Bool.not_eq_true', Bool.not_eq_false'] at *; omega) | (simp_all; done) | (simp_all; omega))
  refine dw_cond (by simp only [go_sem, hss, sameStr_self, sameB_self, bne_self_eq_false, Bool.false_or, beq_self_eq_true]; exact rfl) (fun c1 => ?_) (fun c1 => ?_)
  · skip
    skip
    refine dw_step (C := Ln) (by simp only [go_sem, hss, sameStr_self, sameB_self, bne_self_eq_false, Bool.false_or, beq_self_eq_true]; exact rfl) (fun h => by cases h) ?_ ?_
    · try simp only [go_sem, hss, sameStr_self, sameB_self, bne_self_eq_false, Bool.false_or, beq_self_eq_true]
      all_goals (first | done | (repeat' (with_reducible apply And.intro)) <;> first | omega | (with_reducible assumption) | (intros; omega) | (intros; simp only [decide_eq_true_eq, decide_eq_false_iff_not, Bool.or_eq_true, Bool.and_eq_true, Bool.or_eq_false_iff, Bool.not_eq_true', Bool.not_eq_false'] at *; omega) | (simp_all; done) | (simp_all; omega))
    refine dw_ret ?_
    refine ⟨(by first | exact .inr rfl | trivial | simp), ?_, ?_⟩
    · simp only [go_sem, hss, sameStr_self, sameB_self, bne_self_eq_false, Bool.false_or, beq_self_eq_true]
    refine ⟨0, ?_, ?_⟩
    · try simp only [go_sem, hss, sameStr_self, sameB_self, bne_self_eq_false, Bool.false_or, beq_self_eq_true]
      all_goals (simp)
    · try simp only [go_sem, hss, sameStr_self, sameB_self, bne_self_eq_false, Bool.false_or, beq_self_eq_true]
      all_goals (first | rfl | (rw [hra, show ((more.length : Int) == 0) = decide ((more.length : Int) = 0) from rfl]; simp; done) | (simp; done) | skip)
  · skip
    try simp only [decide_eq_true_eq, decide_eq_false_iff_not, Bool.or_eq_true, Bool.and_eq_true, Bool.or_eq_false_iff, Bool.not_eq_true', Bool.not_eq_false', Bool.and_eq_false_iff, beq_iff_eq, beq_eq_false_iff_ne, bne_iff_ne, bne_eq_false_iff_eq, ne_eq] at c1
    refine dw_skip ?_
    show DW _ _ _ _ _
    refine dw_step (C := Ln) (by simp only [go_sem, hss, sameStr_self, sameB_self, bne_self_eq_false, Bool.false_or, beq_self_eq_true]; exact rfl) (fun h => by cases h) ?_ ?_
    · try simp only [go_sem, hss, sameStr_self, sameB_self, bne_self_eq_false, Bool.false_or, beq_self_eq_true]
      all_goals (first | done | exact rread_ct x)
    refine dw_seq ?_
    refine dw_step (C := Ln) (by simp only [go_sem, hss, sameStr_self, sameB_self, bne_self_eq_false, Bool.false_or, beq_self_eq_true]; exact rfl) (fun h => by cases h) ?_ ?_
    · try simp only [go_sem, hss, sameStr_self, sameB_self, bne_self_eq_false, Bool.false_or, beq_self_eq_true]
      all_goals (first | done | (repeat' (with_reducible apply And.intro)) <;> first | omega | (with_reducible assumption) | (intros; omega) | (intros; simp only [decide_eq_true_eq, decide_eq_false_iff_not, Bool.or_eq_true, Bool.and_eq_true, Bool.or_eq_false_iff, Bool.not_eq_true', Bool.not_eq_false'] at *; omega) | (simp_all; done) | (simp_all; omega))
    refine dw_cond (by simp only [go_sem, hss, sameStr_self, sameB_self, bne_self_eq_false, Bool.false_or, beq_self_eq_true]; exact rfl) (fun c2 => ?_) (fun c2 => ?_)
    · skip
      have c2 : (readF x).2 = 0 := by simpa using c2
      obtain ⟨hx1, hx2⟩ := bytes_read c2
      have hb : bytesF ⟨((readF x).1).name, ((readF x).1).ty, ((readF x).1).life, ((readF x).1).data⟩ = (x, 0) := by show bytesF (readF x).1 = _; unfold bytesF; rw [(setOk_iff _).2 hx1, hx2]; rfl
      have hvx : setOk ⟨((readF x).1).name, ((readF x).1).ty, ((readF x).1).life, ((readF x).1).data⟩ = true := (setOk_iff _).2 hx1
      refine dw_step (C := Ln) (by simp only [go_sem, hss, sameStr_self, sameB_self, bne_self_eq_false, Bool.false_or, beq_self_eq_true, hb, hvx, c2]; exact rfl) (fun h => by cases h) ?_ ?_
      · try simp only [go_sem, hss, sameStr_self, sameB_self, bne_self_eq_false, Bool.false_or, beq_self_eq_true, hb, hvx, c2]
        all_goals (first | done | ((repeat' (with_reducible apply And.intro)) <;> (intros; first | done | omega | exact (rbytes_ct (readF x).1).as rfl (by rw [show bytesF (readF x).1 = (x, 0) from hb]) | (simp_all; done) | skip)))
      refine dw_reg (C := Ln) (by simp only [go_sem, hss, sameStr_self, sameB_self, bne_self_eq_false, Bool.false_or, beq_self_eq_true, hb, hvx, c2]; exact rfl) (fun h => by cases h) ?_ ?_
      · try simp only [go_sem, hss, sameStr_self, sameB_self, bne_self_eq_false, Bool.false_or, beq_self_eq_true, hb, hvx, c2]
        all_goals (first | done | ((repeat' (with_reducible apply And.intro)) <;> (intros; first | done | omega | exact (rbytes2_ct x x).as rfl (by rw [sameStr_self]) | exact (rvalid_ct (readF x).1).as rfl (by rw [(setOk_iff _).2 hx1]) | (simp_all; done) | skip)))
      show DW _ _ _ _ _
      refine dw_seq ?_
      refine dw_step (C := Ln) (by simp only [go_sem, hss, sameStr_self, sameB_self, bne_self_eq_false, Bool.false_or, beq_self_eq_true, hb, hvx, c2]; exact rfl) (fun h => by cases h) ?_ ?_
      · try simp only [go_sem, hss, sameStr_self, sameB_self, bne_self_eq_false, Bool.false_or, beq_self_eq_true, hb, hvx, c2]
        all_goals (first | done | ((repeat' (with_reducible apply And.intro)) <;> (intros; first | done | omega | exact rfew02_ct [s] | exact rrvalid_ct s | (simp_all; done) | skip)))
      refine dw_cond (by simp only [go_sem, hss, sameStr_self, sameB_self, bne_self_eq_false, Bool.false_or, beq_self_eq_true, hb, hvx, c2]; exact rfl) (fun c3 => ?_) (fun c3 => ?_)
      · skip
        skip
        refine dw_step (C := Ln) (by simp only [go_sem, hss, sameStr_self, sameB_self, bne_self_eq_false, Bool.false_or, beq_self_eq_true, hb, hvx, c2]; exact rfl) (fun h => by cases h) ?_ ?_
        · try simp only [go_sem, hss, sameStr_self, sameB_self, bne_self_eq_false, Bool.false_or, beq_self_eq_true, hb, hvx, c2]
          all_goals (first | done | (repeat' (with_reducible apply And.intro)) <;> first | omega | (with_reducible assumption) | (intros; omega) | (intros; simp only [decide_eq_true_eq, decide_eq_false_iff_not, Bool.or_eq_true, Bool.and_eq_true, Bool.or_eq_false_iff, Bool.not_eq_true', Bool.not_eq_false'] at *; omega) | (simp_all; done) | (simp_all; omega))
        refine dw_ret ?_
        refine ⟨(by first | exact .inr rfl | trivial | simp), ?_, ?_⟩
        · simp only [go_sem, hss, sameStr_self, sameB_self, bne_self_eq_false, Bool.false_or, beq_self_eq_true, hb, hvx, c2]
        refine ⟨0, ?_, ?_⟩
        · try simp only [go_sem, hss, sameStr_self, sameB_self, bne_self_eq_false, Bool.false_or, beq_self_eq_true, hb, hvx, c2]
          all_goals (simp)
        · try simp only [go_sem, hss, sameStr_self, sameB_self, bne_self_eq_false, Bool.false_or, beq_self_eq_true, hb, hvx, c2]
          all_goals (first | rfl | (rw [hra, show ((more.length : Int) == 0) = decide ((more.length : Int) = 0) from rfl]; simp; done) | (simp; done) | skip)
      · skip
        have hq : fewB [s] = true ∧ setOk s = true := by simpa using c3
        have hs := (setOk_iff s).1 hq.2
        have hl8 := hs.len
        have hbs : bytesF s = (setB s, 0) := by unfold bytesF; rw [hq.2]; rfl
        have hbs2 : bytesF ⟨(s).name, (s).ty, (s).life, (s).data⟩ = (setB s, 0) := hbs
        have hrs : readF (setB s) = (s, 0) := read_bytes hs
        have hpos := setB_pos s
        have hsl := setB_len hs
        have hw : IntKind.i64.wrap cut = cut := by rw [IntKind.wrap_i64]; omega
        have hj1 := Int.emod_nonneg cut (show ((setB s).length : Int) ≠ 0 by omega)
        have hj2 := Int.emod_lt_of_pos cut (show (0 : Int) < (setB s).length by omega)
        have hrl := read_less hs (j := (cut % ((setB s).length : Int)).toNat) (by omega)
        have hra := read_all hs more
        refine dw_skip ?_
        show DW _ _ _ _ _
        refine dw_step (C := Ln) (by simp only [go_sem, hss, sameStr_self, sameB_self, bne_self_eq_false, Bool.false_or, beq_self_eq_true, hb, hvx, c2, hbs2, hrs, hw, hrl, ← List.map_take]; exact rfl) (fun h => by cases h) ?_ ?_
        · try simp only [go_sem, hss, sameStr_self, sameB_self, bne_self_eq_false, Bool.false_or, beq_self_eq_true, hb, hvx, c2, hbs2, hrs, hw, hrl, ← List.map_take]
          all_goals (first | done | ((repeat' (with_reducible apply And.intro)) <;> (intros; first | done | omega | exact (rbytes_ct s).as rfl (by rw [hbs]) | (simp_all; done) | skip)))
        refine dw_step (C := Ln) (by simp only [go_sem, hss, sameStr_self, sameB_self, bne_self_eq_false, Bool.false_or, beq_self_eq_true, hb, hvx, c2, hbs2, hrs, hw, hrl, ← List.map_take]; exact rfl) (fun h => by cases h) ?_ ?_
        · try simp only [go_sem, hss, sameStr_self, sameB_self, bne_self_eq_false, Bool.false_or, beq_self_eq_true, hb, hvx, c2, hbs2, hrs, hw, hrl, ← List.map_take]
          all_goals (first | done | ((repeat' (with_reducible apply And.intro)) <;> (intros; first | done | omega | exact (rread_ct (setB s)).as rfl (by rw [hrs]; rfl) | (simp_all; done) | skip)))
        refine dw_seq ?_
        refine dw_step (C := Ln) (by simp only [go_sem, hss, sameStr_self, sameB_self, bne_self_eq_false, Bool.false_or, beq_self_eq_true, hb, hvx, c2, hbs2, hrs, hw, hrl, ← List.map_take]; exact rfl) (fun h => by cases h) ?_ ?_
        · try simp only [go_sem, hss, sameStr_self, sameB_self, bne_self_eq_false, Bool.false_or, beq_self_eq_true, hb, hvx, c2, hbs2, hrs, hw, hrl, ← List.map_take]
          all_goals (first | done | ((repeat' (with_reducible apply And.intro)) <;> (intros; first | done | omega | exact (rsame02_ct s s (by omega)).as rfl (by rw [sameB_self]) | (simp_all; done) | skip)))
        refine dw_cond (by simp only [go_sem, hss, sameStr_self, sameB_self, bne_self_eq_false, Bool.false_or, beq_self_eq_true, hb, hvx, c2, hbs2, hrs, hw, hrl, ← List.map_take]; exact rfl) (fun c4 => ?_) (fun c4 => ?_)
        · skip
          exfalso; have : ((setB s).length : Int) = 0 := by simpa using c4
          omega
        · skip
          skip
          refine dw_skip ?_
          show DW _ _ _ _ _
          refine dw_step (C := Ln) (by simp only [go_sem, hss, sameStr_self, sameB_self, bne_self_eq_false, Bool.false_or, beq_self_eq_true, hb, hvx, c2, hbs2, hrs, hw, hrl, ← List.map_take]; exact rfl) (fun h => by cases h) ?_ ?_
          · try simp only [go_sem, hss, sameStr_self, sameB_self, bne_self_eq_false, Bool.false_or, beq_self_eq_true, hb, hvx, c2, hbs2, hrs, hw, hrl, ← List.map_take]
            all_goals (first | done | ((repeat' (with_reducible apply And.intro)) <;> (intros; first | done | omega | exact (rread_ct ((setB s).take (cut % ((setB s).length : Int)).toNat)).as rfl (by rw [hrl]; rfl) | (simp_all; done) | skip)))
          refine dw_seq (dw_call (C := Ln) 5 (R := _) (arr_at rfl) rfl rfl (by simp only [List.take_succ_cons, List.take_zero, go_sem, hss, sameStr_self, sameB_self, bne_self_eq_false, Bool.false_or, beq_self_eq_true, hb, hvx, c2, hbs2, hrs, hw, hrl, ← List.map_take]; exact rfl) ?_ ?_ (by simp only [go_sem, hss, sameStr_self, sameB_self, bne_self_eq_false, Bool.false_or, beq_self_eq_true, hb, hvx, c2, hbs2, hrs, hw, hrl, ← List.map_take]; exact rfl) (by simp only [go_sem, hss, sameStr_self, sameB_self, bne_self_eq_false, Bool.false_or, beq_self_eq_true, hb, hvx, c2, hbs2, hrs, hw, hrl, ← List.map_take]) (by simp only [go_sem, hss, sameStr_self, sameB_self, bne_self_eq_false, Bool.false_or, beq_self_eq_true, hb, hvx, c2, hbs2, hrs, hw, hrl, ← List.map_take]; exact rfl) (by exact (rread_ct (setB s ++ more)).rct_frz (by simp only [go_sem]; exact rfl) (by simp) (by simp [go_sem]) (by rw [List.drop_zero, List.take_of_length_le (by simp), List.map_append]) _) ?_)
          · try simp only [go_sem, hss, sameStr_self, sameB_self, bne_self_eq_false, Bool.false_or, beq_self_eq_true, hb, hvx, c2, hbs2, hrs, hw, hrl, ← List.map_take]
            all_goals (first | done | (repeat' (with_reducible apply And.intro)) <;> first | omega | (with_reducible assumption) | (intros; omega) | (intros; simp only [decide_eq_true_eq, decide_eq_false_iff_not, Bool.or_eq_true, Bool.and_eq_true, Bool.or_eq_false_iff, Bool.not_eq_true', Bool.not_eq_false'] at *; omega) | (simp_all; done) | (simp_all; omega))
          · try simp only [go_sem, hss, sameStr_self, sameB_self, bne_self_eq_false, Bool.false_or, beq_self_eq_true, hb, hvx, c2, hbs2, hrs, hw, hrl, ← List.map_take]
            all_goals (first | done | rfl | decide | simp)
          rintro res h2 n2 ⟨rfl, rfl, rfl⟩
          refine ⟨⟨_, _, _, _, _, _⟩, by simp only [List.drop_succ_cons, List.drop_zero, S.put, go_sem, hss, sameStr_self, sameB_self, bne_self_eq_false, Bool.false_or, beq_self_eq_true, hb, hvx, c2, hbs2, hrs, hw, hrl, ← List.map_take]; exact rfl, ?_, ?_⟩
          · try simp only [go_sem, hss, sameStr_self, sameB_self, bne_self_eq_false, Bool.false_or, beq_self_eq_true, hb, hvx, c2, hbs2, hrs, hw, hrl, ← List.map_take]
            all_goals (first | done | (repeat' (with_reducible apply And.intro)) <;> first | omega | (with_reducible assumption) | (intros; omega) | (intros; simp only [decide_eq_true_eq, decide_eq_false_iff_not, Bool.or_eq_true, Bool.and_eq_true, Bool.or_eq_false_iff, Bool.not_eq_true', Bool.not_eq_false'] at *; omega) | (simp_all; done) | (simp_all; omega))
          try simp only [clear_eq]
          show DW _ _ _ _ _
          refine dw_step (C := Ln) (by simp only [go_sem, hss, sameStr_self, sameB_self, bne_self_eq_false, Bool.false_or, beq_self_eq_true, hb, hvx, c2, hbs2, hrs, hw, hrl, ← List.map_take]; exact rfl) (fun h => by cases h) ?_ ?_
          · try simp only [go_sem, hss, sameStr_self, sameB_self, bne_self_eq_false, Bool.false_or, beq_self_eq_true, hb, hvx, c2, hbs2, hrs, hw, hrl, ← List.map_take]
            all_goals (first | done | (repeat' (with_reducible apply And.intro)) <;> first | omega | (with_reducible assumption) | (intros; omega) | (intros; simp only [decide_eq_true_eq, decide_eq_false_iff_not, Bool.or_eq_true, Bool.and_eq_true, Bool.or_eq_false_iff, Bool.not_eq_true', Bool.not_eq_false'] at *; omega) | (simp_all; done) | (simp_all; omega))
          refine dw_ret ?_
          refine ⟨(by first | exact .inr rfl | trivial | simp), ?_, ?_⟩
          · simp only [go_sem, hss, sameStr_self, sameB_self, bne_self_eq_false, Bool.false_or, beq_self_eq_true, hb, hvx, c2, hbs2, hrs, hw, hrl, ← List.map_take]
          refine ⟨0, ?_, ?_⟩
          · try simp only [go_sem, hss, sameStr_self, sameB_self, bne_self_eq_false, Bool.false_or, beq_self_eq_true, hb, hvx, c2, hbs2, hrs, hw, hrl, ← List.map_take]
            all_goals (simp)
          · try simp only [go_sem, hss, sameStr_self, sameB_self, bne_self_eq_false, Bool.false_or, beq_self_eq_true, hb, hvx, c2, hbs2, hrs, hw, hrl, ← List.map_take]
            all_goals (first | rfl | (rw [hra, show ((more.length : Int) == 0) = decide ((more.length : Int) = 0) from rfl]; simp; done) | (simp; done) | skip)
    · skip
      skip
      refine dw_skip ?_
      show DW _ _ _ _ _
      refine dw_seq ?_
      refine dw_step (C := Ln) (by simp only [go_sem, hss, sameStr_self, sameB_self, bne_self_eq_false, Bool.false_or, beq_self_eq_true]; exact rfl) (fun h => by cases h) ?_ ?_
      · try simp only [go_sem, hss, sameStr_self, sameB_self, bne_self_eq_false, Bool.false_or, beq_self_eq_true]
        all_goals (first | done | ((repeat' (with_reducible apply And.intro)) <;> (intros; first | done | omega | exact rfew02_ct [s] | exact rrvalid_ct s | (simp_all; done) | skip)))
      refine dw_cond (by simp only [go_sem, hss, sameStr_self, sameB_self, bne_self_eq_false, Bool.false_or, beq_self_eq_true]; exact rfl) (fun c3 => ?_) (fun c3 => ?_)
      · skip
        skip
        refine dw_step (C := Ln) (by simp only [go_sem, hss, sameStr_self, sameB_self, bne_self_eq_false, Bool.false_or, beq_self_eq_true]; exact rfl) (fun h => by cases h) ?_ ?_
        · try simp only [go_sem, hss, sameStr_self, sameB_self, bne_self_eq_false, Bool.false_or, beq_self_eq_true]
          all_goals (first | done | (repeat' (with_reducible apply And.intro)) <;> first | omega | (with_reducible assumption) | (intros; omega) | (intros; simp only [decide_eq_true_eq, decide_eq_false_iff_not, Bool.or_eq_true, Bool.and_eq_true, Bool.or_eq_false_iff, Bool.not_eq_true', Bool.not_eq_false'] at *; omega) | (simp_all; done) | (simp_all; omega))
        refine dw_ret ?_
        refine ⟨(by first | exact .inr rfl | trivial | simp), ?_, ?_⟩
        · simp only [go_sem, hss, sameStr_self, sameB_self, bne_self_eq_false, Bool.false_or, beq_self_eq_true]
        refine ⟨0, ?_, ?_⟩
        · try simp only [go_sem, hss, sameStr_self, sameB_self, bne_self_eq_false, Bool.false_or, beq_self_eq_true]
          all_goals (simp)
        · try simp only [go_sem, hss, sameStr_self, sameB_self, bne_self_eq_false, Bool.false_or, beq_self_eq_true]
          all_goals (first | rfl | (rw [hra, show ((more.length : Int) == 0) = decide ((more.length : Int) = 0) from rfl]; simp; done) | (simp; done) | skip)
      · skip
        have hq : fewB [s] = true ∧ setOk s = true := by simpa using c3
        have hs := (setOk_iff s).1 hq.2
        have hl8 := hs.len
        have hbs : bytesF s = (setB s, 0) := by unfold bytesF; rw [hq.2]; rfl
        have hbs2 : bytesF ⟨(s).name, (s).ty, (s).life, (s).data⟩ = (setB s, 0) := hbs
        have hrs : readF (setB s) = (s, 0) := read_bytes hs
        have hpos := setB_pos s
        have hsl := setB_len hs
        have hw : IntKind.i64.wrap cut = cut := by rw [IntKind.wrap_i64]; omega
        have hj1 := Int.emod_nonneg cut (show ((setB s).length : Int) ≠ 0 by omega)
        have hj2 := Int.emod_lt_of_pos cut (show (0 : Int) < (setB s).length by omega)
        have hrl := read_less hs (j := (cut % ((setB s).length : Int)).toNat) (by omega)
        have hra := read_all hs more
        refine dw_skip ?_
        show DW _ _ _ _ _
        refine dw_step (C := Ln) (by simp only [go_sem, hss, sameStr_self, sameB_self, bne_self_eq_false, Bool.false_or, beq_self_eq_true, hbs2, hrs, hw, hrl, ← List.map_take]; exact rfl) (fun h => by cases h) ?_ ?_
        · try simp only [go_sem, hss, sameStr_self, sameB_self, bne_self_eq_false, Bool.false_or, beq_self_eq_true, hbs2, hrs, hw, hrl, ← List.map_take]
          all_goals (first | done | ((repeat' (with_reducible apply And.intro)) <;> (intros; first | done | omega | exact (rbytes_ct s).as rfl (by rw [hbs]) | (simp_all; done) | skip)))
        refine dw_step (C := Ln) (by simp only [go_sem, hss, sameStr_self, sameB_self, bne_self_eq_false, Bool.false_or, beq_self_eq_true, hbs2, hrs, hw, hrl, ← List.map_take]; exact rfl) (fun h => by cases h) ?_ ?_
        · try simp only [go_sem, hss, sameStr_self, sameB_self, bne_self_eq_false, Bool.false_or, beq_self_eq_true, hbs2, hrs, hw, hrl, ← List.map_take]
          all_goals (first | done | ((repeat' (with_reducible apply And.intro)) <;> (intros; first | done | omega | exact (rread_ct (setB s)).as rfl (by rw [hrs]; rfl) | (simp_all; done) | skip)))
        refine dw_seq ?_
        refine dw_step (C := Ln) (by simp only [go_sem, hss, sameStr_self, sameB_self, bne_self_eq_false, Bool.false_or, beq_self_eq_true, hbs2, hrs, hw, hrl, ← List.map_take]; exact rfl) (fun h => by cases h) ?_ ?_
        · try simp only [go_sem, hss, sameStr_self, sameB_self, bne_self_eq_false, Bool.false_or, beq_self_eq_true, hbs2, hrs, hw, hrl, ← List.map_take]
          all_goals (first | done | ((repeat' (with_reducible apply And.intro)) <;> (intros; first | done | omega | exact (rsame02_ct s s (by omega)).as rfl (by rw [sameB_self]) | (simp_all; done) | skip)))
        refine dw_cond (by simp only [go_sem, hss, sameStr_self, sameB_self, bne_self_eq_false, Bool.false_or, beq_self_eq_true, hbs2, hrs, hw, hrl, ← List.map_take]; exact rfl) (fun c4 => ?_) (fun c4 => ?_)
        · skip
          exfalso; have : ((setB s).length : Int) = 0 := by simpa using c4
          omega
        · skip
          skip
          refine dw_skip ?_
          show DW _ _ _ _ _
          refine dw_step (C := Ln) (by simp only [go_sem, hss, sameStr_self, sameB_self, bne_self_eq_false, Bool.false_or, beq_self_eq_true, hbs2, hrs, hw, hrl, ← List.map_take]; exact rfl) (fun h => by cases h) ?_ ?_
          · try simp only [go_sem, hss, sameStr_self, sameB_self, bne_self_eq_false, Bool.false_or, beq_self_eq_true, hbs2, hrs, hw, hrl, ← List.map_take]
            all_goals (first | done | ((repeat' (with_reducible apply And.intro)) <;> (intros; first | done | omega | exact (rread_ct ((setB s).take (cut % ((setB s).length : Int)).toNat)).as rfl (by rw [hrl]; rfl) | (simp_all; done) | skip)))
          refine dw_seq (dw_call (C := Ln) 5 (R := _) (arr_at rfl) rfl rfl (by simp only [List.take_succ_cons, List.take_zero, go_sem, hss, sameStr_self, sameB_self, bne_self_eq_false, Bool.false_or, beq_self_eq_true, hbs2, hrs, hw, hrl, ← List.map_take]; exact rfl) ?_ ?_ (by simp only [go_sem, hss, sameStr_self, sameB_self, bne_self_eq_false, Bool.false_or, beq_self_eq_true, hbs2, hrs, hw, hrl, ← List.map_take]; exact rfl) (by simp only [go_sem, hss, sameStr_self, sameB_self, bne_self_eq_false, Bool.false_or, beq_self_eq_true, hbs2, hrs, hw, hrl, ← List.map_take]) (by simp only [go_sem, hss, sameStr_self, sameB_self, bne_self_eq_false, Bool.false_or, beq_self_eq_true, hbs2, hrs, hw, hrl, ← List.map_take]; exact rfl) (by exact (rread_ct (setB s ++ more)).rct_frz (by simp only [go_sem]; exact rfl) (by simp) (by simp [go_sem]) (by rw [List.drop_zero, List.take_of_length_le (by simp), List.map_append]) _) ?_)
          · try simp only [go_sem, hss, sameStr_self, sameB_self, bne_self_eq_false, Bool.false_or, beq_self_eq_true, hbs2, hrs, hw, hrl, ← List.map_take]
            all_goals (first | done | (repeat' (with_reducible apply And.intro)) <;> first | omega | (with_reducible assumption) | (intros; omega) | (intros; simp only [decide_eq_true_eq, decide_eq_false_iff_not, Bool.or_eq_true, Bool.and_eq_true, Bool.or_eq_false_iff, Bool.not_eq_true', Bool.not_eq_false'] at *; omega) | (simp_all; done) | (simp_all; omega))
          · try simp only [go_sem, hss, sameStr_self, sameB_self, bne_self_eq_false, Bool.false_or, beq_self_eq_true, hbs2, hrs, hw, hrl, ← List.map_take]
            all_goals (first | done | rfl | decide | simp)
          rintro res h2 n2 ⟨rfl, rfl, rfl⟩
          refine ⟨⟨_, _, _, _, _, _⟩, by simp only [List.drop_succ_cons, List.drop_zero, S.put, go_sem, hss, sameStr_self, sameB_self, bne_self_eq_false, Bool.false_or, beq_self_eq_true, hbs2, hrs, hw, hrl, ← List.map_take]; exact rfl, ?_, ?_⟩
          · try simp only [go_sem, hss, sameStr_self, sameB_self, bne_self_eq_false, Bool.false_or, beq_self_eq_true, hbs2, hrs, hw, hrl, ← List.map_take]
            all_goals (first | done | (repeat' (with_reducible apply And.intro)) <;> first | omega | (with_reducible assumption) | (intros; omega) | (intros; simp only [decide_eq_true_eq, decide_eq_false_iff_not, Bool.or_eq_true, Bool.and_eq_true, Bool.or_eq_false_iff, Bool.not_eq_true', Bool.not_eq_false'] at *; omega) | (simp_all; done) | (simp_all; omega))
          try simp only [clear_eq]
          show DW _ _ _ _ _
          refine dw_step (C := Ln) (by simp only [go_sem, hss, sameStr_self, sameB_self, bne_self_eq_false, Bool.false_or, beq_self_eq_true, hbs2, hrs, hw, hrl, ← List.map_take]; exact rfl) (fun h => by cases h) ?_ ?_
          · try simp only [go_sem, hss, sameStr_self, sameB_self, bne_self_eq_false, Bool.false_or, beq_self_eq_true, hbs2, hrs, hw, hrl, ← List.map_take]
            all_goals (first | done | (repeat' (with_reducible apply And.intro)) <;> first | omega | (with_reducible assumption) | (intros; omega) | (intros; simp only [decide_eq_true_eq, decide_eq_false_iff_not, Bool.or_eq_true, Bool.and_eq_true, Bool.or_eq_false_iff, Bool.not_eq_true', Bool.not_eq_false'] at *; omega) | (simp_all; done) | (simp_all; omega))
          refine dw_ret ?_
          refine ⟨(by first | exact .inr rfl | trivial | simp), ?_, ?_⟩
          · simp only [go_sem, hss, sameStr_self, sameB_self, bne_self_eq_false, Bool.false_or, beq_self_eq_true, hbs2, hrs, hw, hrl, ← List.map_take]
          refine ⟨0, ?_, ?_⟩
          · try simp only [go_sem, hss, sameStr_self, sameB_self, bne_self_eq_false, Bool.false_or, beq_self_eq_true, hbs2, hrs, hw, hrl, ← List.map_take]
            all_goals (simp)
          · try simp only [go_sem, hss, sameStr_self, sameB_self, bne_self_eq_false, Bool.false_or, beq_self_eq_true, hbs2, hrs, hw, hrl, ← List.map_take]
            all_goals (first | rfl | (rw [hra, show ((more.length : Int) == 0) = decide ((more.length : Int) = 0) from rfl]; simp; done) | (simp; done) | skip)

end Go.Proofs.YtfggmgafjabbjaaDoor
