/-
  PadRises, in the shadow machine. (Printed by gen37.py.)
-/
import Derived.Test.YtfiigeiajhecoaaT35
set_option linter.unusedSimpArgs false
set_option linter.unusedVariables false
namespace Go.Sh.F
set_option maxHeartbeats 8000000 in
theorem fRises (n m : Int) : swpF O42 sf8 [.int .i64 n, .int .i64 m] [] (fun r _ => r = .bool true) := by
  have c1 := y39 okSt_nil n
  have c2 := y39 okSt_nil m
  simp (maxSteps := 2000000) (disch := first | omega | (simp only [List.length_append, List.length_cons, List.length_nil, List.length_map] <;> omega)) only [sf8, flg_bool, swp_seq, swp_reg, seqK_n, evK_some, appK_eq, srun_nil, srun_cons, stepK_call, swpF_eq, sk_give, raw_lit, put_some, wb_nil, ev_give, ro_bool, pubs, pubsFrom, List.map_cons, List.map_nil, List.set_cons_zero, List.set_cons_succ, List.length_cons, List.length_nil, List.replicate_succ, List.replicate_zero, List.cons_append, List.nil_append, Nat.reduceAdd, Nat.reduceSub, Bool.false_eq_true, ↓reduceIte, Nat.zero_add, Int.reduceNeg]
  refine callK_intro y34 ?_
  simp (maxSteps := 2000000) (disch := first | omega | (simp only [List.length_append, List.length_cons, List.length_nil, List.length_map] <;> omega)) only [flg_bool, exc_int, swp_seq, swp_reg, seqK_n, evK_some, appK_eq, appC_eq, srun_nil, srun_cons, stepK_call, sk_mv, sk_give, get_mk, raw_slot, put_some, wb_nil, ev_mv, ev_give, ro_int, ro_bool, got_int, pubs, pubsFrom, List.map_cons, List.map_nil, List.getD_cons_zero, List.getD_cons_succ, List.set_cons_zero, List.set_cons_succ, Bool.false_eq_true, ↓reduceIte, Int.reduceNeg]
  refine callK_intro (.inl c1) ?_
  simp (maxSteps := 2000000) (disch := first | omega | (simp only [List.length_append, List.length_cons, List.length_nil, List.length_map] <;> omega)) only [flg_int, exc_int, swp_seq, swp_reg, seqK_n, evK_some, appK_eq, appC_eq, srun_nil, srun_cons, stepK_call, sk_mv, sk_give, get_mk, raw_slot, put_some, wb_nil, ev_mv, ev_give, ro_int, got_int, pubs, pubsFrom, List.map_cons, List.map_nil, List.getD_cons_zero, List.getD_cons_succ, List.set_cons_zero, List.set_cons_succ, Bool.false_eq_true, ↓reduceIte, Int.reduceNeg]
  refine callK_intro (.inl c2) ?_
  rcases bucket_cases n with ⟨h0, hb⟩ | ⟨h0, h1, hb⟩ | ⟨h0, h1, hb⟩ | ⟨h0, h1, hb⟩ | ⟨h0, h1, hb⟩ | ⟨h0, hb⟩
  · have d0 : decide (n < 0) = true := by simp; omega
    have d1 : decide (0 ≤ n) = false := by simp; omega
    rw [hb]
    simp (maxSteps := 2000000) (disch := first | omega | (simp only [List.length_append, List.length_cons, List.length_nil, List.length_map] <;> omega)) only [d0, d1, grd_t, ev_pick, flg_bool, flg_int, exc_bool, exc_int, swp_seq, swp_reg, swp_ret, swp_cond, seqK_n, seqK_r, condK_t, evK_some, appK_eq, appC_eq, grd_t, srun_nil, srun_cons, stepK_grd, fin_ret, sk_mv, sk_take, sk_give, sk_pick, sk_bin, get_mk, raw_slot, raw_lit, put_some, wb_nil, ev_mv, ev_take, ev_give, ev_pick, bin_eql, bin_lss, bin_geq, ro_int, ro_bool, got_int, got_bool, List.map_cons, List.map_nil, List.getD_cons_zero, List.getD_cons_succ, List.set_cons_zero, List.set_cons_succ, List.length_nil, and_true, Bool.false_eq_true, ↓reduceIte, reduceCtorEq, beq_self_eq_true, ge_iff_le, Int.reduceNeg]
    exact ⟨_, .same⟩
  · have d0 : decide (n < 0) = false := by simp; omega
    have d1 : decide (0 ≤ n) = true := by simp; omega
    rw [hb]
    by_cases hm : m < n
    · have d2 : decide (m < n) = true := by simp; omega
      simp (maxSteps := 2000000) (disch := first | omega | (simp only [List.length_append, List.length_cons, List.length_nil, List.length_map] <;> omega)) only [d0, d1, d2, grd_t, ev_pick, flg_bool, flg_int, exc_bool, exc_int, swp_seq, swp_reg, swp_ret, swp_cond, seqK_n, seqK_r, condK_t, evK_some, appK_eq, appC_eq, grd_t, srun_nil, srun_cons, stepK_grd, fin_ret, sk_mv, sk_take, sk_give, sk_pick, sk_bin, get_mk, raw_slot, raw_lit, put_some, wb_nil, ev_mv, ev_take, ev_give, ev_pick, bin_lss, bin_geq, ro_int, ro_bool, got_int, got_bool, List.map_cons, List.map_nil, List.getD_cons_zero, List.getD_cons_succ, List.set_cons_zero, List.set_cons_succ, List.length_nil, and_true, Bool.false_eq_true, ↓reduceIte, reduceCtorEq, ge_iff_le, Int.reduceNeg]
      exact ⟨_, .same⟩
    have d2 : decide (m < n) = false := by simp; omega
    have d3 : decide (80 < n + 4) = false := by simp; omega
    have d4 : decide (n + 4 ≤ 0) = false := by simp; omega
    have d5 : decide (5116 < n) = false := by simp; omega
    simp (maxSteps := 2000000) (disch := first | omega | (simp only [List.length_append, List.length_cons, List.length_nil, List.length_map] <;> omega)) only [d0, d2, grd_t, ev_pick, flg_int, exc_int, swp_seq, swp_reg, swp_skip, swp_cond, seqK_n, condK_f, evK_some, appK_eq, appC_eq, grd_t, srun_nil, srun_cons, stepK_call, stepK_grd, sk_mv, sk_take, sk_give, sk_pick, sk_bin, get_mk, raw_slot, raw_lit, put_some, wb_nil, ev_mv, ev_take, ev_give, ev_pick, bin_lss, bin_geq, ro_int, ro_bool, got_int, pubs, pubsFrom, List.map_cons, List.map_nil, List.getD_cons_zero, List.getD_cons_succ, List.set_cons_zero, List.set_cons_succ, Bool.false_eq_true, ↓reduceIte, decide_true, ge_iff_le, Int.reduceLE, Int.reduceNeg]
    refine callK_intro (.inl (y41 okSt_nil 0)) ?_
    rw [show sizeF 0 = 80 from rfl]
    have hmc : bucketF m = -1 ∨ 0 ≤ bucketF m := by
      rcases bucket_cases m with ⟨_, h⟩ | ⟨_, _, h⟩ | ⟨_, _, h⟩ | ⟨_, _, h⟩ | ⟨_, _, h⟩ | ⟨_, h⟩ <;> rw [h] <;> omega
    rcases hmc with hbm | hbm
    · rw [hbm]
      clear hbm
      simp (maxSteps := 2000000) (disch := first | omega | (simp only [List.length_append, List.length_cons, List.length_nil, List.length_map] <;> omega)) only [d3, d5, grd_t, ev_pick, flg_bool, exc_bool, exc_int, grd_s, swp_seq, swp_reg, swp_skip, swp_ret, swp_cond, seqK_n, condK_f, evK_some, appK_eq, appC_eq, grd_t, srun_nil, srun_cons, stepK_grd, fin_ret, sk_mv, sk_take, sk_give, sk_pick, sk_bin, sk_eqB, get_mk, raw_slot, raw_lit, put_some, wb_nil, ev_mv, ev_take, ev_give, ev_pick, ev_eqB, bin_add, bin_eql, bin_lss, bin_gtr, ro_bool, got_int, got_bool, List.map_cons, List.map_nil, List.getD_cons_zero, List.getD_cons_succ, List.set_cons_zero, List.set_cons_succ, List.length_nil, and_true, Bool.false_eq_true, ↓reduceIte, decide_false, reduceCtorEq, beq_self_eq_true, Int.reduceBEq, gt_iff_lt, Int.reduceLT, Int.reduceNeg, wrap_i64]
      exact ⟨_, .same⟩
    · have e1 : (bucketF m == -1) = false := by rw [beq_eq_false_iff_ne]; omega
      have e2 : decide (0 ≤ bucketF m) = true := by simp; omega
      simp (maxSteps := 2000000) (disch := first | omega | (simp only [List.length_append, List.length_cons, List.length_nil, List.length_map] <;> omega)) only [d3, d5, e1, e2, grd_t, ev_pick, flg_bool, exc_bool, exc_int, swp_seq, swp_reg, swp_skip, swp_ret, swp_cond, seqK_n, condK_f, evK_some, appK_eq, appC_eq, grd_t, srun_nil, srun_cons, stepK_grd, fin_ret, sk_mv, sk_take, sk_give, sk_pick, sk_bin, sk_eqB, get_mk, raw_slot, raw_lit, put_some, wb_nil, ev_mv, ev_take, ev_give, ev_pick, ev_eqB, bin_add, bin_eql, bin_lss, bin_leq, bin_gtr, bin_geq, ro_bool, got_int, got_bool, List.map_cons, List.map_nil, List.getD_cons_zero, List.getD_cons_succ, List.set_cons_zero, List.set_cons_succ, List.length_nil, and_true, Bool.false_eq_true, ↓reduceIte, decide_true, decide_false, beq_self_eq_true, Int.reduceBEq, ge_iff_le, gt_iff_lt, Int.reduceLE, Int.reduceLT, Int.reduceNeg, wrap_i64]
      exact ⟨_, .same⟩
  · have d0 : decide (n < 0) = false := by simp; omega
    have d1 : decide (0 ≤ n) = true := by simp; omega
    rw [hb]
    by_cases hm : m < n
    · have d2 : decide (m < n) = true := by simp; omega
      simp (maxSteps := 2000000) (disch := first | omega | (simp only [List.length_append, List.length_cons, List.length_nil, List.length_map] <;> omega)) only [d0, d1, d2, grd_t, ev_pick, flg_bool, flg_int, exc_bool, exc_int, swp_seq, swp_reg, swp_ret, swp_cond, seqK_n, seqK_r, condK_t, evK_some, appK_eq, appC_eq, grd_t, srun_nil, srun_cons, stepK_grd, fin_ret, sk_mv, sk_take, sk_give, sk_pick, sk_bin, get_mk, raw_slot, raw_lit, put_some, wb_nil, ev_mv, ev_take, ev_give, ev_pick, bin_lss, bin_geq, ro_int, ro_bool, got_int, got_bool, List.map_cons, List.map_nil, List.getD_cons_zero, List.getD_cons_succ, List.set_cons_zero, List.set_cons_succ, List.length_nil, and_true, Bool.false_eq_true, ↓reduceIte, reduceCtorEq, ge_iff_le, Int.reduceNeg]
      exact ⟨_, .same⟩
    have d2 : decide (m < n) = false := by simp; omega
    have d3 : decide (320 < n + 4) = false := by simp; omega
    have d4 : decide (n + 4 ≤ 80) = false := by simp; omega
    have d5 : decide (5116 < n) = false := by simp; omega
    simp (maxSteps := 2000000) (disch := first | omega | (simp only [List.length_append, List.length_cons, List.length_nil, List.length_map] <;> omega)) only [d0, d2, grd_t, ev_pick, flg_int, exc_int, swp_seq, swp_reg, swp_skip, swp_cond, seqK_n, condK_f, evK_some, appK_eq, appC_eq, grd_t, srun_nil, srun_cons, stepK_call, stepK_grd, sk_mv, sk_take, sk_give, sk_pick, sk_bin, get_mk, raw_slot, raw_lit, put_some, wb_nil, ev_mv, ev_take, ev_give, ev_pick, bin_lss, bin_geq, ro_int, ro_bool, got_int, pubs, pubsFrom, List.map_cons, List.map_nil, List.getD_cons_zero, List.getD_cons_succ, List.set_cons_zero, List.set_cons_succ, Bool.false_eq_true, ↓reduceIte, decide_true, ge_iff_le, Int.reduceLE, Int.reduceNeg]
    refine callK_intro (.inl (y41 okSt_nil 1)) ?_
    rw [show sizeF 1 = 320 from rfl]
    simp (maxSteps := 2000000) (disch := first | omega | (simp only [List.length_append, List.length_cons, List.length_nil, List.length_map] <;> omega)) only [d3, grd_t, exc_bool, exc_int, evK_some, appK_eq, appC_eq, grd_t, srun_cons, stepK_call, stepK_grd, sk_take, sk_bin, get_mk, raw_slot, raw_lit, put_some, wb_nil, ev_take, bin_add, bin_sub, bin_lss, bin_gtr, got_int, got_bool, pubs, pubsFrom, List.map_cons, List.map_nil, List.getD_cons_zero, List.getD_cons_succ, List.set_cons_zero, List.set_cons_succ, Bool.false_eq_true, ↓reduceIte, decide_true, gt_iff_lt, Int.reduceLT, Int.reduceSub, Int.reduceNeg, wrap_i64]
    refine callK_intro (.inl (y41 okSt_nil 0)) ?_
    rw [show sizeF 0 = 80 from rfl]
    have hmc : bucketF m = -1 ∨ 1 ≤ bucketF m := by
      rcases bucket_cases m with ⟨_, h⟩ | ⟨_, _, h⟩ | ⟨_, _, h⟩ | ⟨_, _, h⟩ | ⟨_, _, h⟩ | ⟨_, h⟩ <;> rw [h] <;> omega
    rcases hmc with hbm | hbm
    · rw [hbm]
      clear hbm
      simp (maxSteps := 2000000) (disch := first | omega | (simp only [List.length_append, List.length_cons, List.length_nil, List.length_map] <;> omega)) only [d4, d5, grd_t, ev_pick, flg_bool, exc_bool, exc_int, grd_s, swp_seq, swp_reg, swp_skip, swp_ret, swp_cond, seqK_n, condK_f, evK_some, appK_eq, appC_eq, grd_t, srun_nil, srun_cons, stepK_grd, fin_ret, sk_mv, sk_take, sk_give, sk_pick, sk_bin, sk_eqB, get_mk, raw_slot, raw_lit, put_some, wb_nil, ev_mv, ev_take, ev_give, ev_pick, ev_eqB, bin_add, bin_eql, bin_gtr, bin_geq, ro_bool, got_int, got_bool, List.map_cons, List.map_nil, List.getD_cons_zero, List.getD_cons_succ, List.set_cons_zero, List.set_cons_succ, List.length_nil, and_true, Bool.false_eq_true, ↓reduceIte, reduceCtorEq, beq_self_eq_true, Int.reduceBEq, ge_iff_le, gt_iff_lt, Int.reduceNeg, wrap_i64]
      exact ⟨_, .same⟩
    · have e1 : (bucketF m == -1) = false := by rw [beq_eq_false_iff_ne]; omega
      have e2 : decide (1 ≤ bucketF m) = true := by simp; omega
      simp (maxSteps := 2000000) (disch := first | omega | (simp only [List.length_append, List.length_cons, List.length_nil, List.length_map] <;> omega)) only [d4, d5, e1, e2, grd_t, ev_pick, flg_bool, exc_bool, exc_int, swp_seq, swp_reg, swp_skip, swp_ret, swp_cond, seqK_n, condK_f, evK_some, appK_eq, appC_eq, grd_t, srun_nil, srun_cons, stepK_grd, fin_ret, sk_mv, sk_take, sk_give, sk_pick, sk_bin, sk_eqB, get_mk, raw_slot, raw_lit, put_some, wb_nil, ev_mv, ev_take, ev_give, ev_pick, ev_eqB, bin_add, bin_eql, bin_leq, bin_gtr, bin_geq, ro_bool, got_int, got_bool, List.map_cons, List.map_nil, List.getD_cons_zero, List.getD_cons_succ, List.set_cons_zero, List.set_cons_succ, List.length_nil, and_true, Bool.false_eq_true, ↓reduceIte, decide_true, beq_self_eq_true, Int.reduceBEq, ge_iff_le, gt_iff_lt, Int.reduceLE, Int.reduceNeg, wrap_i64]
      exact ⟨_, .same⟩
  · have d0 : decide (n < 0) = false := by simp; omega
    have d1 : decide (0 ≤ n) = true := by simp; omega
    rw [hb]
    by_cases hm : m < n
    · have d2 : decide (m < n) = true := by simp; omega
      simp (maxSteps := 2000000) (disch := first | omega | (simp only [List.length_append, List.length_cons, List.length_nil, List.length_map] <;> omega)) only [d0, d1, d2, grd_t, ev_pick, flg_bool, flg_int, exc_bool, exc_int, swp_seq, swp_reg, swp_ret, swp_cond, seqK_n, seqK_r, condK_t, evK_some, appK_eq, appC_eq, grd_t, srun_nil, srun_cons, stepK_grd, fin_ret, sk_mv, sk_take, sk_give, sk_pick, sk_bin, get_mk, raw_slot, raw_lit, put_some, wb_nil, ev_mv, ev_take, ev_give, ev_pick, bin_lss, bin_geq, ro_int, ro_bool, got_int, got_bool, List.map_cons, List.map_nil, List.getD_cons_zero, List.getD_cons_succ, List.set_cons_zero, List.set_cons_succ, List.length_nil, and_true, Bool.false_eq_true, ↓reduceIte, reduceCtorEq, ge_iff_le, Int.reduceNeg]
      exact ⟨_, .same⟩
    have d2 : decide (m < n) = false := by simp; omega
    have d3 : decide (1280 < n + 4) = false := by simp; omega
    have d4 : decide (n + 4 ≤ 320) = false := by simp; omega
    have d5 : decide (5116 < n) = false := by simp; omega
    simp (maxSteps := 2000000) (disch := first | omega | (simp only [List.length_append, List.length_cons, List.length_nil, List.length_map] <;> omega)) only [d0, d2, grd_t, ev_pick, flg_int, exc_int, swp_seq, swp_reg, swp_skip, swp_cond, seqK_n, condK_f, evK_some, appK_eq, appC_eq, grd_t, srun_nil, srun_cons, stepK_call, stepK_grd, sk_mv, sk_take, sk_give, sk_pick, sk_bin, get_mk, raw_slot, raw_lit, put_some, wb_nil, ev_mv, ev_take, ev_give, ev_pick, bin_lss, bin_geq, ro_int, ro_bool, got_int, pubs, pubsFrom, List.map_cons, List.map_nil, List.getD_cons_zero, List.getD_cons_succ, List.set_cons_zero, List.set_cons_succ, Bool.false_eq_true, ↓reduceIte, decide_true, ge_iff_le, Int.reduceLE, Int.reduceNeg]
    refine callK_intro (.inl (y41 okSt_nil 2)) ?_
    rw [show sizeF 2 = 1280 from rfl]
    simp (maxSteps := 2000000) (disch := first | omega | (simp only [List.length_append, List.length_cons, List.length_nil, List.length_map] <;> omega)) only [d3, grd_t, exc_bool, exc_int, evK_some, appK_eq, appC_eq, grd_t, srun_cons, stepK_call, stepK_grd, sk_take, sk_bin, get_mk, raw_slot, raw_lit, put_some, wb_nil, ev_take, bin_add, bin_sub, bin_lss, bin_gtr, got_int, got_bool, pubs, pubsFrom, List.map_cons, List.map_nil, List.getD_cons_zero, List.getD_cons_succ, List.set_cons_zero, List.set_cons_succ, Bool.false_eq_true, ↓reduceIte, decide_true, gt_iff_lt, Int.reduceLT, Int.reduceSub, Int.reduceNeg, wrap_i64]
    refine callK_intro (.inl (y41 okSt_nil 1)) ?_
    rw [show sizeF 1 = 320 from rfl]
    have hmc : bucketF m = -1 ∨ 2 ≤ bucketF m := by
      rcases bucket_cases m with ⟨_, h⟩ | ⟨_, _, h⟩ | ⟨_, _, h⟩ | ⟨_, _, h⟩ | ⟨_, _, h⟩ | ⟨_, h⟩ <;> rw [h] <;> omega
    rcases hmc with hbm | hbm
    · rw [hbm]
      clear hbm
      simp (maxSteps := 2000000) (disch := first | omega | (simp only [List.length_append, List.length_cons, List.length_nil, List.length_map] <;> omega)) only [d4, d5, grd_t, ev_pick, flg_bool, exc_bool, exc_int, grd_s, swp_seq, swp_reg, swp_skip, swp_ret, swp_cond, seqK_n, condK_f, evK_some, appK_eq, appC_eq, grd_t, srun_nil, srun_cons, stepK_grd, fin_ret, sk_mv, sk_take, sk_give, sk_pick, sk_bin, sk_eqB, get_mk, raw_slot, raw_lit, put_some, wb_nil, ev_mv, ev_take, ev_give, ev_pick, ev_eqB, bin_add, bin_eql, bin_gtr, bin_geq, ro_bool, got_int, got_bool, List.map_cons, List.map_nil, List.getD_cons_zero, List.getD_cons_succ, List.set_cons_zero, List.set_cons_succ, List.length_nil, and_true, Bool.false_eq_true, ↓reduceIte, reduceCtorEq, beq_self_eq_true, Int.reduceBEq, ge_iff_le, gt_iff_lt, Int.reduceNeg, wrap_i64]
      exact ⟨_, .same⟩
    · have e1 : (bucketF m == -1) = false := by rw [beq_eq_false_iff_ne]; omega
      have e2 : decide (2 ≤ bucketF m) = true := by simp; omega
      simp (maxSteps := 2000000) (disch := first | omega | (simp only [List.length_append, List.length_cons, List.length_nil, List.length_map] <;> omega)) only [d4, d5, e1, e2, grd_t, ev_pick, flg_bool, exc_bool, exc_int, swp_seq, swp_reg, swp_skip, swp_ret, swp_cond, seqK_n, condK_f, evK_some, appK_eq, appC_eq, grd_t, srun_nil, srun_cons, stepK_grd, fin_ret, sk_mv, sk_take, sk_give, sk_pick, sk_bin, sk_eqB, get_mk, raw_slot, raw_lit, put_some, wb_nil, ev_mv, ev_take, ev_give, ev_pick, ev_eqB, bin_add, bin_eql, bin_leq, bin_gtr, bin_geq, ro_bool, got_int, got_bool, List.map_cons, List.map_nil, List.getD_cons_zero, List.getD_cons_succ, List.set_cons_zero, List.set_cons_succ, List.length_nil, and_true, Bool.false_eq_true, ↓reduceIte, decide_true, beq_self_eq_true, Int.reduceBEq, ge_iff_le, gt_iff_lt, Int.reduceLE, Int.reduceNeg, wrap_i64]
      exact ⟨_, .same⟩
  · have d0 : decide (n < 0) = false := by simp; omega
    have d1 : decide (0 ≤ n) = true := by simp; omega
    rw [hb]
    by_cases hm : m < n
    · have d2 : decide (m < n) = true := by simp; omega
      simp (maxSteps := 2000000) (disch := first | omega | (simp only [List.length_append, List.length_cons, List.length_nil, List.length_map] <;> omega)) only [d0, d1, d2, grd_t, ev_pick, flg_bool, flg_int, exc_bool, exc_int, swp_seq, swp_reg, swp_ret, swp_cond, seqK_n, seqK_r, condK_t, evK_some, appK_eq, appC_eq, grd_t, srun_nil, srun_cons, stepK_grd, fin_ret, sk_mv, sk_take, sk_give, sk_pick, sk_bin, get_mk, raw_slot, raw_lit, put_some, wb_nil, ev_mv, ev_take, ev_give, ev_pick, bin_lss, bin_geq, ro_int, ro_bool, got_int, got_bool, List.map_cons, List.map_nil, List.getD_cons_zero, List.getD_cons_succ, List.set_cons_zero, List.set_cons_succ, List.length_nil, and_true, Bool.false_eq_true, ↓reduceIte, reduceCtorEq, ge_iff_le, Int.reduceNeg]
      exact ⟨_, .same⟩
    have d2 : decide (m < n) = false := by simp; omega
    have d3 : decide (5120 < n + 4) = false := by simp; omega
    have d4 : decide (n + 4 ≤ 1280) = false := by simp; omega
    have d5 : decide (5116 < n) = false := by simp; omega
    simp (maxSteps := 2000000) (disch := first | omega | (simp only [List.length_append, List.length_cons, List.length_nil, List.length_map] <;> omega)) only [d0, d2, grd_t, ev_pick, flg_int, exc_int, swp_seq, swp_reg, swp_skip, swp_cond, seqK_n, condK_f, evK_some, appK_eq, appC_eq, grd_t, srun_nil, srun_cons, stepK_call, stepK_grd, sk_mv, sk_take, sk_give, sk_pick, sk_bin, get_mk, raw_slot, raw_lit, put_some, wb_nil, ev_mv, ev_take, ev_give, ev_pick, bin_lss, bin_geq, ro_int, ro_bool, got_int, pubs, pubsFrom, List.map_cons, List.map_nil, List.getD_cons_zero, List.getD_cons_succ, List.set_cons_zero, List.set_cons_succ, Bool.false_eq_true, ↓reduceIte, decide_true, ge_iff_le, Int.reduceLE, Int.reduceNeg]
    refine callK_intro (.inl (y41 okSt_nil 3)) ?_
    rw [show sizeF 3 = 5120 from rfl]
    simp (maxSteps := 2000000) (disch := first | omega | (simp only [List.length_append, List.length_cons, List.length_nil, List.length_map] <;> omega)) only [d3, grd_t, exc_bool, exc_int, evK_some, appK_eq, appC_eq, grd_t, srun_cons, stepK_call, stepK_grd, sk_take, sk_bin, get_mk, raw_slot, raw_lit, put_some, wb_nil, ev_take, bin_add, bin_sub, bin_lss, bin_gtr, got_int, got_bool, pubs, pubsFrom, List.map_cons, List.map_nil, List.getD_cons_zero, List.getD_cons_succ, List.set_cons_zero, List.set_cons_succ, Bool.false_eq_true, ↓reduceIte, decide_true, gt_iff_lt, Int.reduceLT, Int.reduceSub, Int.reduceNeg, wrap_i64]
    refine callK_intro (.inl (y41 okSt_nil 2)) ?_
    rw [show sizeF 2 = 1280 from rfl]
    have hmc : bucketF m = -1 ∨ 3 ≤ bucketF m := by
      rcases bucket_cases m with ⟨_, h⟩ | ⟨_, _, h⟩ | ⟨_, _, h⟩ | ⟨_, _, h⟩ | ⟨_, _, h⟩ | ⟨_, h⟩ <;> rw [h] <;> omega
    rcases hmc with hbm | hbm
    · rw [hbm]
      clear hbm
      simp (maxSteps := 2000000) (disch := first | omega | (simp only [List.length_append, List.length_cons, List.length_nil, List.length_map] <;> omega)) only [d4, d5, grd_t, ev_pick, flg_bool, exc_bool, exc_int, grd_s, swp_seq, swp_reg, swp_skip, swp_ret, swp_cond, seqK_n, condK_f, evK_some, appK_eq, appC_eq, grd_t, srun_nil, srun_cons, stepK_grd, fin_ret, sk_mv, sk_take, sk_give, sk_pick, sk_bin, sk_eqB, get_mk, raw_slot, raw_lit, put_some, wb_nil, ev_mv, ev_take, ev_give, ev_pick, ev_eqB, bin_add, bin_eql, bin_gtr, bin_geq, ro_bool, got_int, got_bool, List.map_cons, List.map_nil, List.getD_cons_zero, List.getD_cons_succ, List.set_cons_zero, List.set_cons_succ, List.length_nil, and_true, Bool.false_eq_true, ↓reduceIte, reduceCtorEq, beq_self_eq_true, Int.reduceBEq, ge_iff_le, gt_iff_lt, Int.reduceNeg, wrap_i64]
      exact ⟨_, .same⟩
    · have e1 : (bucketF m == -1) = false := by rw [beq_eq_false_iff_ne]; omega
      have e2 : decide (3 ≤ bucketF m) = true := by simp; omega
      simp (maxSteps := 2000000) (disch := first | omega | (simp only [List.length_append, List.length_cons, List.length_nil, List.length_map] <;> omega)) only [d4, d5, e1, e2, grd_t, ev_pick, flg_bool, exc_bool, exc_int, swp_seq, swp_reg, swp_skip, swp_ret, swp_cond, seqK_n, condK_f, evK_some, appK_eq, appC_eq, grd_t, srun_nil, srun_cons, stepK_grd, fin_ret, sk_mv, sk_take, sk_give, sk_pick, sk_bin, sk_eqB, get_mk, raw_slot, raw_lit, put_some, wb_nil, ev_mv, ev_take, ev_give, ev_pick, ev_eqB, bin_add, bin_eql, bin_leq, bin_gtr, bin_geq, ro_bool, got_int, got_bool, List.map_cons, List.map_nil, List.getD_cons_zero, List.getD_cons_succ, List.set_cons_zero, List.set_cons_succ, List.length_nil, and_true, Bool.false_eq_true, ↓reduceIte, decide_true, beq_self_eq_true, Int.reduceBEq, ge_iff_le, gt_iff_lt, Int.reduceLE, Int.reduceNeg, wrap_i64]
      exact ⟨_, .same⟩
  · have d0 : decide (n < 0) = false := by simp; omega
    have d1 : decide (0 ≤ n) = true := by simp; omega
    rw [hb]
    by_cases hm : m < n
    · have d2 : decide (m < n) = true := by simp; omega
      simp (maxSteps := 2000000) (disch := first | omega | (simp only [List.length_append, List.length_cons, List.length_nil, List.length_map] <;> omega)) only [d0, d1, d2, grd_t, ev_pick, flg_bool, flg_int, exc_bool, exc_int, swp_seq, swp_reg, swp_ret, swp_cond, seqK_n, seqK_r, condK_t, evK_some, appK_eq, appC_eq, grd_t, srun_nil, srun_cons, stepK_grd, fin_ret, sk_mv, sk_take, sk_give, sk_pick, sk_bin, get_mk, raw_slot, raw_lit, put_some, wb_nil, ev_mv, ev_take, ev_give, ev_pick, bin_lss, bin_geq, ro_int, ro_bool, got_int, got_bool, List.map_cons, List.map_nil, List.getD_cons_zero, List.getD_cons_succ, List.set_cons_zero, List.set_cons_succ, List.length_nil, and_true, Bool.false_eq_true, ↓reduceIte, reduceCtorEq, ge_iff_le, Int.reduceNeg]
      exact ⟨_, .same⟩
    have d2 : decide (m < n) = false := by simp; omega
    have d5 : decide (5116 < n) = true := by simp; omega
    have hmb : bucketF m = -1 := by
      rcases bucket_cases m with ⟨_, h⟩ | ⟨_, _, h⟩ | ⟨_, _, h⟩ | ⟨_, _, h⟩ | ⟨_, _, h⟩ | ⟨_, h⟩ <;> first | exact h | (exfalso; omega)
    rw [hmb]
    simp (maxSteps := 2000000) (disch := first | omega | (simp only [List.length_append, List.length_cons, List.length_nil, List.length_map] <;> omega)) only [d0, d2, d5, grd_t, ev_pick, flg_bool, flg_int, exc_bool, exc_int, grd_s, swp_seq, swp_reg, swp_skip, swp_ret, swp_cond, seqK_n, condK_f, evK_some, appK_eq, appC_eq, grd_t, srun_nil, srun_cons, stepK_grd, fin_ret, sk_mv, sk_take, sk_give, sk_pick, sk_bin, sk_eqB, get_mk, raw_slot, raw_lit, put_some, wb_nil, ev_mv, ev_take, ev_give, ev_pick, ev_eqB, bin_eql, bin_lss, bin_gtr, bin_geq, ro_int, ro_bool, got_int, got_bool, List.map_cons, List.map_nil, List.getD_cons_zero, List.getD_cons_succ, List.set_cons_zero, List.set_cons_succ, List.length_nil, and_true, Bool.false_eq_true, ↓reduceIte, decide_false, reduceCtorEq, beq_self_eq_true, ge_iff_le, gt_iff_lt, Int.reduceLE, Int.reduceNeg]
    exact ⟨_, .same⟩
end Go.Sh.F
