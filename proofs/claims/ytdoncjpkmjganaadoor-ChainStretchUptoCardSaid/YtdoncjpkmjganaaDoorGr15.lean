/-
  Chains: ChainStretch, in the shadow machine.
-/
import Derived.Test.YtdoncjpkmjganaaDoorGr14
set_option linter.unusedSimpArgs false
set_option linter.unusedVariables false
namespace Go.Sh.F
open Go.PathLaw Go.Proofs
theorem t19 {m : Mf} {st : List Ob} (h1 : m.ok st) (h2 : m.fit) (h3 : okSt st) : O54 19 [.agg m.cells] st (.bool (rightM m)) st := (.inl (.inl (.inl (.inl (.inl (.inl (.inl (.inl (.inl (.inl (.inl (.inl (.inl (.inl (.inl (.inl (r19 h1 h2 h3)))))))))))))))))
set_option maxHeartbeats 32000000 in
set_option maxRecDepth 50000 in
theorem g5 (c : Cu) (hcf : c.fit) (au : Int) (lv : SV) (l : List Mf) (hv : SV) (hs : List Int) (ov : SV) (own : List Int) (st : List Ob) (hm : RowM st lv l) (hh : RowI st hv hs) (hhl : hs.length ≤ 1099511627776) (hw : RowI st ov own) (hwl : own.length ≤ 1099511627776) (ho : okSt st) :
    swpF O54 sf5 [.agg c.cells, .int .i64 au, lv, hv, ov] st (fun r st' => r = .bool true ∧ st' = st) := by
  obtain ⟨q1, q2, q3, q4, q6, q7⟩ := hm.1.facts
  obtain ⟨u1, u2, u3, u4, u6, u7⟩ := hh.facts
  obtain ⟨w1, w2, w3, w4, w6, w7⟩ := hw.facts
  have q5 := hm.1.lenL
  have u5 := hh.lenL
  have w5 := hw.lenL
  have hb := hm.2.1
  have i1 := hm.idp 2
  have i2 := RowI.idp hh 2
  have i3 := RowI.idp hw 2
  have wk := fun x => RowAt.mono hw x
  have o0 : okSt (st ++ [.cells [.int .i64 c.ve, .int .i64 c.he, .int .i64 c.ep, .int .i64 c.ak]]) := okSt_appL ho rfl
  have o2 : ∀ k : Cu, okSt (st ++ [.cells [.int .i64 c.ve, .int .i64 c.he, .int .i64 c.ep, .int .i64 c.ak], .cells [.int .i64 k.ve, .int .i64 k.he, .int .i64 k.ep, .int .i64 k.ak]]) := fun k => okSt_appL ho rfl
  have s1 := fun (w0 : Ob) (a b d e : Int) => st_aggA (st := st) (l := [w0, .cells [.int .i64 0, .int .i64 0, .int .i64 0, .int .i64 0]]) (i := 1) (n := 4) (b := true) (xs := [.int .i64 a, .int .i64 b, .int .i64 d, .int .i64 e]) rfl rfl rfl rfl rfl
  have s2 := fun (w0 w1 : Ob) (a b d e : Int) => st_aggA (st := st) (l := [w0, w1, .cells [.int .i64 0, .int .i64 0, .int .i64 0, .int .i64 0]]) (i := 2) (n := 4) (b := true) (xs := [.int .i64 a, .int .i64 b, .int .i64 d, .int .i64 e]) rfl rfl rfl rfl rfl
  have s3 := fun (w0 w2 : Ob) (a b d e a' b' d' e' : Int) => st_aggA (st := st) (l := [w0, .cells [.int .i64 a', .int .i64 b', .int .i64 d', .int .i64 e'], w2]) (i := 1) (n := 4) (b := true) (xs := [.int .i64 a, .int .i64 b, .int .i64 d, .int .i64 e]) rfl rfl rfl rfl rfl
  simp only [Cu.cells]
  simp (maxSteps := 2000000) (disch := first | omega | (simp only [List.length_append, List.length_cons, List.length_nil, List.length_map] <;> omega)) only [sf5, cv_agg, cell_int, List.set_cons_zero, List.set_cons_succ, flg_bool, exc_agg, swp_seq, swp_reg, seqK_n, evK_some, appK_eq, srun_nil, srun_cons, stepK_call, swpF_eq, sk_give, sk_box, get_mk, raw_slot, raw_lit, put_some, wb_nil, ev_give, ev_box, ro_bool, ro1_int, got_agg, pubs, pubsFrom, List.map_cons, List.map_nil, List.getD_cons_zero, List.set_cons_zero, List.set_cons_succ, List.length_cons, List.length_nil, List.replicate_succ, List.replicate_zero, List.cons_append, List.nil_append, Nat.reduceAdd, Nat.reduceSub, Bool.false_eq_true, ↓reduceIte, List.all_cons, List.all_nil, Bool.and_self, Nat.zero_add]
  refine callK_intro (t9 o0) ?_
  simp (maxSteps := 2000000) (disch := first | omega | (simp only [List.length_append, List.length_cons, List.length_nil, List.length_map] <;> omega)) only [q1, q2, q3, List.set_cons_zero, List.set_cons_succ, flg_bool, swp_seq, swp_reg, seqK_n, evK_some, appK_eq, appC_eq, srun_nil, srun_cons, stepK_call, sk_mv, sk_give, get_mk, raw_slot, put_some, wb_nil, ev_mv, ev_give, ro_bool, pubs, pubsFrom, List.map_cons, List.map_nil, List.getD_cons_zero, List.getD_cons_succ, List.set_cons_zero, List.set_cons_succ, Bool.false_eq_true, ↓reduceIte]
  refine callK_intro (t10 (hm.mono _) o0) ?_
  rcases bf (fewL l) with h1 | h1
  · rw [h1]
    simp (maxSteps := 2000000) (disch := first | omega | (simp only [List.length_append, List.length_cons, List.length_nil, List.length_map] <;> omega)) only [List.set_cons_zero, List.set_cons_succ, flg_bool, swp_seq, swp_reg, swp_ret, swp_cond, seqK_n, seqK_r, condK_t, evK_some, appK_eq, appC_eq, grd_t, srun_nil, srun_cons, stepK_grd, fin_ret, sk_mv, sk_give, sk_pick, sk_un, get_mk, raw_slot, raw_lit, put_some, wb_nil, ev_mv, ev_give, ev_pick, ev_not, ro_bool, List.map_cons, List.map_nil, List.getD_cons_zero, List.getD_cons_succ, List.set_cons_zero, List.set_cons_succ, true_and, Bool.false_eq_true, ↓reduceIte, reduceCtorEq, Bool.not_false]
    first | exact ⟨_, trim1 ho rfl⟩ | exact ⟨_, trim1 ho rfl, rfl⟩ | exact ⟨_, trim1 ho rfl, rfl, rfl⟩ | exact ⟨_, trim1 ho rfl, by simp, rfl⟩ | exact ⟨_, trim1 ho rfl, by simp⟩
  rw [h1]
  rcases bt (decide (300 < (own.length : Int))) with h2 | h2
  · simp (maxSteps := 2000000) (disch := first | omega | (simp only [List.length_append, List.length_cons, List.length_nil, List.length_map] <;> omega)) only [h2, w2, w3, w5, List.set_cons_zero, List.set_cons_succ, flg_bool, swp_seq, swp_reg, swp_ret, swp_cond, seqK_n, seqK_r, condK_t, evK_some, appK_eq, appC_eq, grd_t, srun_nil, srun_cons, stepK_grd, fin_ret, sk_mv, sk_take, sk_give, sk_pick, sk_bin, sk_un, sk_lenL, get_mk, raw_slot, raw_lit, put_some, wb_nil, ev_mv, ev_take, ev_give, ev_pick, ev_not, bin_gtr, ro_bool, List.map_cons, List.map_nil, List.getD_cons_zero, List.getD_cons_succ, List.set_cons_zero, List.set_cons_succ, true_and, Bool.false_eq_true, ↓reduceIte, reduceCtorEq, Bool.not_true, gt_iff_lt]
    first | exact ⟨_, trim1 ho rfl⟩ | exact ⟨_, trim1 ho rfl, rfl⟩ | exact ⟨_, trim1 ho rfl, rfl, rfl⟩ | exact ⟨_, trim1 ho rfl, by simp, rfl⟩ | exact ⟨_, trim1 ho rfl, by simp⟩
  rcases bf ((hs.length : Int) == (l.length : Int)) with h3 | h3
  · simp (maxSteps := 2000000) (disch := first | omega | (simp only [List.length_append, List.length_cons, List.length_nil, List.length_map] <;> omega)) only [h2, h3, q2, q3, q5, u2, u3, u5, w2, w3, w5, nbI, List.set_cons_zero, List.set_cons_succ, flg_bool, swp_seq, swp_reg, swp_ret, swp_cond, seqK_n, seqK_r, condK_t, evK_some, appK_eq, appC_eq, grd_t, srun_nil, srun_cons, stepK_grd, fin_ret, sk_mv, sk_take, sk_give, sk_pick, sk_bin, sk_un, sk_lenL, get_mk, raw_slot, raw_lit, put_some, wb_nil, ev_mv, ev_take, ev_give, ev_pick, ev_not, bin_neq, bin_gtr, ro_bool, List.map_cons, List.map_nil, List.getD_cons_zero, List.getD_cons_succ, List.set_cons_zero, List.set_cons_succ, true_and, Bool.false_eq_true, ↓reduceIte, Bool.not_true, Bool.not_false, gt_iff_lt]
    first | exact ⟨_, trim1 ho rfl⟩ | exact ⟨_, trim1 ho rfl, rfl⟩ | exact ⟨_, trim1 ho rfl, rfl, rfl⟩ | exact ⟨_, trim1 ho rfl, by simp, rfl⟩ | exact ⟨_, trim1 ho rfl, by simp⟩
  have hsl : hs.length = l.length := by rw [beq_iff_eq] at h3; omega
  simp (maxSteps := 2000000) (disch := first | omega | (simp only [List.length_append, List.length_cons, List.length_nil, List.length_map] <;> omega)) only [h2, h3, s1, q2, q3, q5, u2, u3, u5, w2, w3, w5, nbI, getA0, ev_ldA, List.drop_zero, List.take_succ_cons, List.take_zero, List.append_assoc, List.set_cons_zero, List.set_cons_succ, apO_some, flg_bool, exc_int, swp_seq, swp_reg, swp_skip, swp_block, swp_cond, seqK_n, condK_f, evK_some, appK_eq, appC_eq, grd_t, srun_nil, srun_cons, stepK_grd, sk_mv, sk_take, sk_give, sk_pick, sk_bin, sk_un, sk_load, sk_store, sk_lenL, sk_alloc, get_mk, raw_slot, raw_lit, put_some, put_none, wb_nil, ev_mv, ev_take, ev_give, ev_pick, ev_not, bin_neq, bin_gtr, ev_alloc, ro_bool, ro_agg, ro1_int, got_int, List.map_cons, List.map_nil, List.getD_cons_zero, List.getD_cons_succ, List.set_cons_zero, List.set_cons_succ, List.getElem?_cons_zero, List.length_cons, List.length_nil, List.cons_append, List.nil_append, Nat.reduceAdd, Bool.false_eq_true, ↓reduceIte, Nat.zero_add, Bool.not_true, gt_iff_lt, List.length_append, Nat.le_refl]
  refine swp_lp (fun S => ∃ (i : Nat) (k : Cu), i ≤ l.length ∧ S = ⟨[.undef, .int .i64 au, lv, hv, ov, .ptr st.length 0, .undef, .undef, .undef, .undef, .undef, .bool true, .undef, .ptr (st.length + 1) 0, .int .i64 i] ++ List.replicate 145 .undef, st ++ [.cells [.int .i64 c.ve, .int .i64 c.he, .int .i64 c.ep, .int .i64 c.ak], .cells [.int .i64 k.ve, .int .i64 k.he, .int .i64 k.ep, .int .i64 k.ak]]⟩)
      (fun S => match S.get 14 with | .int _ k => ((l.length : Int) - k).toNat | _ => 0)
      ⟨[.undef, .int .i64 au, lv, hv, ov, .ptr st.length 0, .undef, .undef, .undef, .undef, .undef, .bool true, .undef, .ptr (st.length + 1) 0, .int .i64 0] ++ List.replicate 145 .undef, st ++ [.cells [.int .i64 c.ve, .int .i64 c.he, .int .i64 c.ep, .int .i64 c.ak], .cells [.int .i64 c.ve, .int .i64 c.he, .int .i64 c.ep, .int .i64 c.ak]]⟩ ?_ ⟨0, c, Nat.zero_le _, rfl⟩ ?_
  · refine Forget.of ?_
    repeat first | exact fg_e | refine fg_d ?_ | refine fg_k rfl ?_
  rintro S ⟨i, k, hi, rfl⟩
  by_cases him : i = l.length
  · have hd : decide ((i : Int) < (l.length : Int)) = false := by rw [decide_eq_false_iff_not]; omega
    simp (maxSteps := 2000000) (disch := first | omega | (simp only [List.length_append, List.length_cons, List.length_nil, List.length_map] <;> omega)) only [hd, q1, q5, List.set_cons_zero, List.set_cons_succ, lpK_e, flg_bool, swp_seq, swp_reg, swp_ret, swp_exit, swp_cond, seqK_n, seqK_e, blkK_e, condK_f, evK_some, appK_eq, srun_nil, srun_cons, fin_ret, sk_mv, sk_give, sk_bin, sk_lenL, get_mk, raw_slot, put_some, wb_nil, ev_mv, ev_give, bin_lss, ro_int, ro_bool, List.map_cons, List.map_nil, List.getD_cons_zero, List.getD_cons_succ, List.set_cons_zero, List.set_cons_succ, List.length_cons, List.length_nil, List.replicate_succ, List.replicate_zero, List.cons_append, List.nil_append, Nat.reduceAdd, true_and, Bool.false_eq_true, ↓reduceIte, Nat.zero_add, List.length_append]
    first | exact ⟨_, trim1 ho rfl⟩ | exact ⟨_, trim1 ho rfl, rfl⟩ | exact ⟨_, trim1 ho rfl, rfl, rfl⟩ | exact ⟨_, trim1 ho rfl, by simp, rfl⟩ | exact ⟨_, trim1 ho rfl, by simp⟩
  have hd : decide ((i : Int) < (l.length : Int)) = true := by rw [decide_eq_true_eq]; omega
  have hil : i < l.length := by omega
  have hih : i < hs.length := by omega
  have fin : ((l.length : Int) - ((i + 1 : Nat) : Int)).toNat < ((l.length : Int) - (i : Int)).toNat := by omega
  obtain ⟨hmo, hmf⟩ := hm.2.2 _ (List.getElem_mem hil)
  have z1 := hm.1.idxA hil .i64
  have z2 := fun x => hm.at' hil x
  have z3 := ro1_mf hmo
  have z0 := hm.1.fld (by omega : 0 < l.length) (i * 8)
  have f0 := fun x => hm.fl hil (j := 0) rfl rfl x
  have f1 := fun x => hm.fl hil (j := 1) rfl rfl x
  have f2 := fun x => hm.fl hil (j := 2) rfl rfl x
  have f3 := fun x => hm.fl hil (j := 3) rfl rfl x
  have f5 := fun x => hm.fl hil (j := 5) rfl rfl x
  simp only [Nat.add_zero] at f0
  have y1 := hh.idxA hih .i64
  rw [Nat.mul_one] at y1
  have y2 := fun x => hh.ld1 (isv_at (List.getElem?_eq_getElem hih)) x
  rcases bf (accE k au l[i] own == 0) with e1 | e1
  · have e1' : accE k au l[i] own ≠ 0 := by simpa using e1
    have xc : accC k au l[i] hs[i] own = k := by unfold accC; rw [if_neg e1']
    simp (maxSteps := 2000000) (disch := first | omega | (simp only [List.length_append, List.length_cons, List.length_nil, List.length_map] <;> omega)) only [hd, z1, y1, q1, q5, u1, w1, List.set_cons_zero, List.set_cons_succ, swp_seq, swp_reg, swp_skip, swp_block, swp_cond, seqK_n, condK_t, evK_some, appK_eq, srun_nil, srun_cons, sk_mv, sk_bin, sk_idxA, sk_lenL, get_mk, raw_slot, put_some, wb_nil, ev_mv, bin_lss, ro_int, List.map_cons, List.map_nil, List.getD_cons_zero, List.getD_cons_succ, List.set_cons_zero, List.set_cons_succ, List.length_cons, List.length_nil, List.replicate_succ, List.replicate_zero, List.cons_append, List.nil_append, Nat.reduceAdd, Nat.zero_add, List.length_append]
    apply swp_to
    · repeat' first
        | exact swp_ttI
        | refine swp_bothI ?_ ?_
        | (refine callK_intro (t11 (c := k) (hmo.mono _) hmf (wk _) hwl (okSt_appL ho rfl)) ?_; rw [xc])
        | exact ⟨rfl, rfl⟩
        | exact rfl
        | simp (maxSteps := 2000000) (disch := first | omega | (simp only [List.length_append, List.length_cons, List.length_nil, List.length_map] <;> omega)) only [ro2_agg, Cu.cells, z2, z3, y2, s2, w2, w3, getA, ev_ldA, List.drop_zero, List.take_succ_cons, List.take_zero, List.append_assoc, List.set_cons_zero, List.set_cons_succ, apO_some, flg_int, flg_agg, exc_int, exc_agg, swp_seq, swp_reg, seqK_n, evK_some, appK_eq, appC_eq, srun_nil, srun_cons, stepK_call, sk_mv, sk_give, sk_load, sk_store, sk_alloc, sk_ext, get_mk, raw_slot, put_some, put_none, wb_nil, ev_mv, ev_give, ev_ext, ev_alloc, ro_int, ro_agg, ro_tup, ro1_int, ro2_int, got_int, got_agg, pubs, pubsFrom, List.map_cons, List.map_nil, List.getD_cons_zero, List.getD_cons_succ, List.set_cons_zero, List.set_cons_succ, List.getElem?_cons_zero, List.getElem?_cons_succ, List.length_cons, List.length_nil, List.cons_append, List.nil_append, Nat.reduceAdd, true_and, Bool.false_eq_true, Option.map_some, ↓reduceIte, Nat.zero_add, List.length_append, Nat.le_refl]
    simp (maxSteps := 2000000) (disch := first | omega | (simp only [List.length_append, List.length_cons, List.length_nil, List.length_map] <;> omega)) only [e1, nbI, eq_four, getA, ev_ldA, List.drop_zero, List.take_succ_cons, List.take_zero, List.set_cons_zero, List.set_cons_succ, lpK_n, apO_some, flg_int, swp_seq, swp_reg, swp_skip, swp_exit, swp_cond, seqK_n, seqK_e, blkK_e, condK_t, condK_f, evK_some, appK_eq, srun_nil, srun_cons, sk_mv, sk_give, sk_bin, sk_eqA, sk_load, get_mk, raw_slot, raw_lit, put_some, wb_nil, ev_mv, ev_give, bin_add, bin_neq, ro_int, ro_agg, ro1_int, List.map_cons, List.map_nil, List.getD_cons_zero, List.getD_cons_succ, List.set_cons_zero, List.set_cons_succ, List.getElem?_cons_zero, List.getElem?_cons_succ, List.length_cons, List.length_nil, Nat.reduceAdd, Bool.false_eq_true, ↓reduceIte, Bool.and_self, Nat.zero_add, Bool.not_true, Bool.not_false, beq_self_eq_true, wrap_i64, Nat.le_refl]
    refine ⟨_, Forget.cutA (l := [_, _]) (x := [_]) ?_ (by simp) ?_ (o2 k), ⟨i + 1, k, by omega, rfl⟩, by exact fin⟩
    · repeat first | exact fg_e | refine fg_d ?_ | refine fg_k rfl ?_
    · simp [idOks, idOk, i1, i2, i3]
  have e1' : accE k au l[i] own = 0 := by simpa using e1
  obtain ⟨a1, a2, a3, a4, a5, a6, a7⟩ := acc_ok e1'
  have xc : accC k au l[i] hs[i] own = ⟨l[i].ve, hs[i], l[i].ne, l[i].se⟩ := by unfold accC; rw [if_pos e1']
  have hrh := right_head a1
  have hep : 0 ≤ k.ep ∧ k.ep ≤ 100 := by
    have w : wth 100 k.ep = true := by rw [← a5]; exact hrh.2.2.2.2.1
    simpa only [wth, Bool.and_eq_true, decide_eq_true_eq] using w
  have hve : 1 ≤ k.ve + 1 ∧ k.ve + 1 ≤ 200 := by have := hrh.2.1; have := hrh.2.2.1; omega
  have p1 : (l[i].ve == k.ve + 1) = true := by rw [beq_iff_eq]; exact a3
  have p2 : (l[i].pr == k.he) = true := by rw [beq_iff_eq]; exact a4
  have p3 : (l[i].ep == k.ep) = true := by rw [beq_iff_eq]; exact a5
  have p4 : (l[i].au == au) = true := by rw [beq_iff_eq]; exact a2
  have p5 : decide (l[i].se < k.ak) = false := by rw [decide_eq_false_iff_not]; omega
  have p6 : decide (l[i].ne < k.ep) = false := by rw [decide_eq_false_iff_not]; have := hrh.2.2.2.2.2.2; omega
  have p7 : decide (k.ep + 1 < l[i].ne) = false := by rw [decide_eq_false_iff_not]; have := hrh.2.2.2.2.2.2; omega
  simp (maxSteps := 2000000) (disch := first | omega | (simp only [List.length_append, List.length_cons, List.length_nil, List.length_map] <;> omega)) only [hd, z1, y1, q1, q5, u1, w1, List.set_cons_zero, List.set_cons_succ, swp_seq, swp_reg, swp_skip, swp_block, swp_cond, seqK_n, condK_t, evK_some, appK_eq, srun_nil, srun_cons, sk_mv, sk_bin, sk_idxA, sk_lenL, get_mk, raw_slot, put_some, wb_nil, ev_mv, bin_lss, ro_int, List.map_cons, List.map_nil, List.getD_cons_zero, List.getD_cons_succ, List.set_cons_zero, List.set_cons_succ, List.length_cons, List.length_nil, List.replicate_succ, List.replicate_zero, List.cons_append, List.nil_append, Nat.reduceAdd, Nat.zero_add, List.length_append]
  apply swp_to
  · repeat' first
      | exact swp_ttI
      | refine swp_bothI ?_ ?_
      | (refine callK_intro (t11 (c := k) (hmo.mono _) hmf (wk _) hwl (okSt_appL ho rfl)) ?_; rw [xc, e1'])
      | exact ⟨rfl, rfl⟩
      | exact rfl
      | simp (maxSteps := 2000000) (disch := first | omega | (simp only [List.length_append, List.length_cons, List.length_nil, List.length_map] <;> omega)) only [ro2_agg, Cu.cells, z2, z3, y2, s2, w2, w3, getA, ev_ldA, List.drop_zero, List.take_succ_cons, List.take_zero, List.append_assoc, List.set_cons_zero, List.set_cons_succ, apO_some, flg_int, flg_agg, exc_int, exc_agg, swp_seq, swp_reg, seqK_n, evK_some, appK_eq, appC_eq, srun_nil, srun_cons, stepK_call, sk_mv, sk_give, sk_load, sk_store, sk_alloc, sk_ext, get_mk, raw_slot, put_some, put_none, wb_nil, ev_mv, ev_give, ev_ext, ev_alloc, ro_int, ro_agg, ro_tup, ro1_int, ro2_int, got_int, got_agg, pubs, pubsFrom, List.map_cons, List.map_nil, List.getD_cons_zero, List.getD_cons_succ, List.set_cons_zero, List.set_cons_succ, List.getElem?_cons_zero, List.getElem?_cons_succ, List.length_cons, List.length_nil, List.cons_append, List.nil_append, Nat.reduceAdd, true_and, Bool.false_eq_true, Option.map_some, ↓reduceIte, Nat.zero_add, List.length_append, Nat.le_refl]
  simp (maxSteps := 2000000) (disch := first | omega | (simp only [List.length_append, List.length_cons, List.length_nil, List.length_map] <;> omega)) only [p1, p2, p3, p4, p5, z0, z1, z2, z3, f0, f1, f2, f3, f5, q1, nbI, getA, Nat.add_zero, List.set_cons_zero, List.set_cons_succ, exc_agg, swp_seq, swp_reg, swp_skip, swp_cond, seqK_n, condK_f, evK_some, appK_eq, grd_t, srun_nil, srun_cons, stepK_call, stepK_grd, sk_mv, sk_pick, sk_bin, sk_fld, sk_idxA, sk_load, get_mk, raw_slot, raw_lit, put_some, wb_nil, ev_mv, ev_pick, ev_fld, bin_add, bin_neq, bin_lss, ev_ldP, ldP_some, ro_int, ro_bool, got_agg, pubs, pubsFrom, List.map_cons, List.map_nil, List.getD_cons_zero, List.getD_cons_succ, List.set_cons_zero, List.set_cons_succ, List.getElem?_cons_zero, List.getElem?_cons_succ, Bool.false_eq_true, Option.map_some, ↓reduceIte, Nat.zero_add, Bool.not_true, bne_self_eq_false, wrap_i64]
  refine callK_intro (t19 (hmo.mono _) hmf (okSt_appL ho rfl)) ?_
  rw [a1]
  simp (maxSteps := 2000000) (disch := first | omega | (simp only [List.length_append, List.length_cons, List.length_nil, List.length_map] <;> omega)) only [p1, p6, p7, y1, y2, z0, z1, f5, s3, q1, u1, nbI, getA, ev_ldA, List.drop_zero, List.take_succ_cons, List.take_zero, Nat.add_zero, List.set_cons_zero, List.set_cons_succ, lpK_n, apO_some, flg_int, swp_seq, swp_reg, swp_skip, swp_cond, seqK_n, blkK_n, condK_f, evK_some, appK_eq, appC_eq, grd_t, srun_nil, srun_cons, stepK_grd, sk_mv, sk_give, sk_pick, sk_bin, sk_un, sk_fld, sk_idxA, sk_load, sk_store, get_mk, raw_slot, raw_lit, put_some, put_none, wb_nil, ev_mv, ev_give, ev_pick, ev_not, ev_fld, bin_add, bin_neq, bin_lss, bin_gtr, ev_ldP, ldP_some, ro_int, ro_bool, ro_agg, ro1_int, List.map_cons, List.map_nil, List.getD_cons_zero, List.getD_cons_succ, List.set_cons_zero, List.set_cons_succ, List.getElem?_cons_zero, List.getElem?_cons_succ, List.length_cons, List.length_nil, Nat.reduceAdd, Bool.false_eq_true, Option.map_some, ↓reduceIte, Nat.zero_add, Bool.not_true, bne_self_eq_false, gt_iff_lt, wrap_i64, Nat.le_refl]
  refine ⟨_, Forget.cutA (l := [_, _]) (x := [_]) ?_ (by simp) ?_ (o2 ⟨l[i].ve, hs[i], l[i].ne, l[i].se⟩), ⟨i + 1, ⟨l[i].ve, hs[i], l[i].ne, l[i].se⟩, by omega, rfl⟩, by exact fin⟩
  · repeat first | exact fg_e | refine fg_d ?_ | refine fg_k rfl ?_
  · simp [idOks, idOk, i1, i2, i3]
end Go.Sh.F
