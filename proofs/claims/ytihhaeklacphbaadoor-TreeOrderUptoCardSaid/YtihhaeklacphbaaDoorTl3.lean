/-
  Trees: the law TreeOrder, walked.
-/
import Derived.Test.YtihhaeklacphbaaDoorTyM
set_option linter.unusedSimpArgs false
set_option linter.unusedVariables false
namespace Go.Sh.F
open Go.PathLaw Go.TreeLaw Go.Proofs
set_option maxHeartbeats 100000000 in
set_option maxRecDepth 100000 in
theorem l5 (v : SV) (t : List F) (p q a b : List UInt8) (st : List Ob) (hv' : rdR fC v t) (hs : smT t) (hp : sm p) (hq : sm q) (ha : sm a) (hb : sm b) (ho : okSt st) : swpF O330 sf5 [v, .str p, .str q, .str a, .str b] st (fun r _ => r = .bool true) := by
  have hv := rd_F hv' st
  obtain ⟨q1, q2, q3, q4, q6, q7⟩ := RowAt.facts hv
  have q5 := RowAt.lenL hv
  have z0 : ((0 : Int) == 0) = true := rfl
  have zb : ∀ x : Bool, (x == x) = true := fun x => by cases x <;> rfl
  simp (maxSteps := 2000000) (disch := first | omega | (simp only [List.length_append, List.length_cons, List.length_nil, List.length_map] <;> omega)) only [sf5, List.set_cons_zero, List.set_cons_succ, flg_bool, swp_seq, swp_reg, seqK_n, evK_some, appK_eq, srun_nil, srun_cons, stepK_call, swpF_eq, sk_give, raw_lit, put_some, wb_nil, ev_give, ro_bool, pubs, pubsFrom, List.map_cons, List.map_nil, List.set_cons_zero, List.set_cons_succ, List.length_cons, List.length_nil, List.replicate_succ, List.replicate_zero, List.cons_append, List.nil_append, Nat.reduceAdd, Nat.reduceSub, Bool.false_eq_true, ↓reduceIte, Nat.zero_add]
  refine callK_intro (nS ho) ?_
  simp (maxSteps := 2000000) (disch := first | omega | (simp only [List.length_append, List.length_cons, List.length_nil, List.length_map] <;> omega)) only [q1, q2, q3, List.set_cons_zero, List.set_cons_succ, flg_bool, swp_seq, swp_reg, seqK_n, evK_some, appK_eq, appC_eq, srun_nil, srun_cons, stepK_call, sk_mv, sk_give, get_mk, raw_slot, put_some, wb_nil, ev_mv, ev_give, ro_bool, pubs, pubsFrom, List.map_cons, List.map_nil, List.getD_cons_zero, List.getD_cons_succ, List.set_cons_zero, List.set_cons_succ, Bool.false_eq_true, ↓reduceIte]
  refine callK_intro (up (n11 hv hs.1)) ?_
  cases hF : fewT t with
  | false =>
    simp (maxSteps := 2000000) (disch := first | omega | (simp only [List.length_append, List.length_cons, List.length_nil, List.length_map] <;> omega)) only [Bool.not_false, List.set_cons_zero, List.set_cons_succ, flg_bool, swp_seq, swp_reg, swp_ret, swp_cond, seqK_n, seqK_r, condK_t, evK_some, appK_eq, appC_eq, grd_t, srun_nil, srun_cons, stepK_grd, fin_ret, sk_mv, sk_give, sk_pick, sk_un, get_mk, raw_slot, raw_lit, put_some, wb_nil, ev_mv, ev_give, ev_pick, ev_not, ro_bool, List.map_cons, List.map_nil, List.getD_cons_zero, List.getD_cons_succ, List.set_cons_zero, List.set_cons_succ, and_true, Bool.false_eq_true, ↓reduceIte, reduceCtorEq, Bool.not_false]
    first | exact ⟨_, .same, rfl⟩ | exact ⟨_, .same⟩
  | true =>
  simp (maxSteps := 2000000) (disch := first | omega | (simp only [List.length_append, List.length_cons, List.length_nil, List.length_map] <;> omega)) only [Bool.not_true, q2, q3, List.set_cons_zero, List.set_cons_succ, flg_bool, swp_seq, swp_reg, seqK_n, evK_some, appK_eq, appC_eq, grd_t, srun_nil, srun_cons, stepK_call, stepK_grd, sk_mv, sk_take, sk_give, sk_un, get_mk, raw_slot, put_some, wb_nil, ev_mv, ev_take, ev_give, ev_not, ro_bool, pubs, pubsFrom, List.map_cons, List.map_nil, List.getD_cons_zero, List.getD_cons_succ, List.set_cons_zero, List.set_cons_succ, Bool.false_eq_true, ↓reduceIte, Bool.not_true]
  refine callK_intro (up (n19 hv hs ho)) ?_
  cases hR : rightT t with
  | false =>
    simp (maxSteps := 2000000) (disch := first | omega | (simp only [List.length_append, List.length_cons, List.length_nil, List.length_map] <;> omega)) only [Bool.not_false, List.set_cons_zero, List.set_cons_succ, flg_bool, swp_seq, swp_reg, swp_ret, swp_cond, seqK_n, seqK_r, condK_t, evK_some, appK_eq, appC_eq, grd_t, srun_nil, srun_cons, stepK_grd, fin_ret, sk_mv, sk_give, sk_pick, sk_un, get_mk, raw_slot, raw_lit, put_some, wb_nil, ev_mv, ev_give, ev_pick, ev_not, ro_bool, List.map_cons, List.map_nil, List.getD_cons_zero, List.getD_cons_succ, List.set_cons_zero, List.set_cons_succ, and_true, Bool.false_eq_true, ↓reduceIte, reduceCtorEq, Bool.not_false]
    first | exact ⟨_, .same, rfl⟩ | exact ⟨_, .same⟩
  | true =>
  cases hpq : (p == q) with
  | true =>
    simp (maxSteps := 2000000) (disch := first | omega | (simp only [List.length_append, List.length_cons, List.length_nil, List.length_map] <;> omega)) only [hpq, Bool.not_true, List.set_cons_zero, List.set_cons_succ, flg_bool, exc_str, swp_seq, swp_reg, swp_ret, swp_cond, seqK_n, seqK_r, condK_t, evK_some, appK_eq, appC_eq, grd_t, srun_nil, srun_cons, stepK_grd, fin_ret, sk_mv, sk_take, sk_give, sk_pick, sk_bin, sk_un, get_mk, raw_slot, raw_lit, put_some, wb_nil, ev_mv, ev_take, ev_give, ev_pick, ev_not, bin_eqlS, ro_bool, got_str, List.map_cons, List.map_nil, List.getD_cons_zero, List.getD_cons_succ, List.set_cons_zero, List.set_cons_succ, and_true, Bool.false_eq_true, ↓reduceIte, reduceCtorEq, Bool.not_true]
    first | exact ⟨_, .same, rfl⟩ | exact ⟨_, .same⟩
  | false =>
  have hne : p ≠ q := by rintro rfl; rw [beq_self_eq_true] at hpq; cases hpq
  rcases bf (decide ((100 : Int) < (p.length : Int))) with h1 | h1
  rotate_left
  · simp (maxSteps := 2000000) (disch := first | omega | (simp only [List.length_append, List.length_cons, List.length_nil, List.length_map] <;> omega)) only [hpq, h1, Bool.not_true, List.set_cons_zero, List.set_cons_succ, flg_bool, exc_str, swp_seq, swp_reg, swp_ret, swp_cond, seqK_n, seqK_r, condK_t, evK_some, appK_eq, appC_eq, grd_t, srun_nil, srun_cons, stepK_grd, fin_ret, sk_mv, sk_take, sk_give, sk_pick, sk_bin, sk_un, sk_lenS, get_mk, raw_slot, raw_lit, put_some, wb_nil, ev_mv, ev_take, ev_give, ev_pick, ev_not, ev_lenS, bin_gtr, bin_eqlS, ro_bool, got_str, List.map_cons, List.map_nil, List.getD_cons_zero, List.getD_cons_succ, List.set_cons_zero, List.set_cons_succ, and_true, Bool.false_eq_true, ↓reduceIte, reduceCtorEq, Bool.not_true, gt_iff_lt]
    first | exact ⟨_, .same, rfl⟩ | exact ⟨_, .same⟩
  rcases bf (decide ((100 : Int) < (q.length : Int))) with h2 | h2
  rotate_left
  · simp (maxSteps := 2000000) (disch := first | omega | (simp only [List.length_append, List.length_cons, List.length_nil, List.length_map] <;> omega)) only [hpq, h1, h2, Bool.not_true, List.set_cons_zero, List.set_cons_succ, flg_bool, exc_str, swp_seq, swp_reg, swp_ret, swp_cond, seqK_n, seqK_r, condK_t, evK_some, appK_eq, appC_eq, grd_t, srun_nil, srun_cons, stepK_grd, fin_ret, sk_mv, sk_take, sk_give, sk_pick, sk_bin, sk_un, sk_lenS, get_mk, raw_slot, raw_lit, put_some, wb_nil, ev_mv, ev_take, ev_give, ev_pick, ev_not, ev_lenS, bin_gtr, bin_eqlS, ro_bool, got_str, List.map_cons, List.map_nil, List.getD_cons_zero, List.getD_cons_succ, List.set_cons_zero, List.set_cons_succ, and_true, Bool.false_eq_true, ↓reduceIte, reduceCtorEq, Bool.not_true, gt_iff_lt]
    first | exact ⟨_, .same, rfl⟩ | exact ⟨_, .same⟩
  rcases bf (decide ((1000 : Int) < (a.length : Int))) with h3 | h3
  rotate_left
  · simp (maxSteps := 2000000) (disch := first | omega | (simp only [List.length_append, List.length_cons, List.length_nil, List.length_map] <;> omega)) only [hpq, h1, h2, h3, Bool.not_true, List.set_cons_zero, List.set_cons_succ, flg_bool, exc_str, swp_seq, swp_reg, swp_ret, swp_cond, seqK_n, seqK_r, condK_t, evK_some, appK_eq, appC_eq, grd_t, srun_nil, srun_cons, stepK_grd, fin_ret, sk_mv, sk_take, sk_give, sk_pick, sk_bin, sk_un, sk_lenS, get_mk, raw_slot, raw_lit, put_some, wb_nil, ev_mv, ev_take, ev_give, ev_pick, ev_not, ev_lenS, bin_gtr, bin_eqlS, ro_bool, got_str, List.map_cons, List.map_nil, List.getD_cons_zero, List.getD_cons_succ, List.set_cons_zero, List.set_cons_succ, and_true, Bool.false_eq_true, ↓reduceIte, reduceCtorEq, Bool.not_true, gt_iff_lt]
    first | exact ⟨_, .same, rfl⟩ | exact ⟨_, .same⟩
  rcases bf (decide ((1000 : Int) < (b.length : Int))) with h4 | h4
  rotate_left
  · simp (maxSteps := 2000000) (disch := first | omega | (simp only [List.length_append, List.length_cons, List.length_nil, List.length_map] <;> omega)) only [hpq, h1, h2, h3, h4, Bool.not_true, List.set_cons_zero, List.set_cons_succ, flg_bool, exc_str, swp_seq, swp_reg, swp_ret, swp_cond, seqK_n, seqK_r, condK_t, evK_some, appK_eq, appC_eq, grd_t, srun_nil, srun_cons, stepK_grd, fin_ret, sk_mv, sk_take, sk_give, sk_pick, sk_bin, sk_un, sk_lenS, get_mk, raw_slot, raw_lit, put_some, wb_nil, ev_mv, ev_take, ev_give, ev_pick, ev_not, ev_lenS, bin_gtr, bin_eqlS, ro_bool, got_str, List.map_cons, List.map_nil, List.getD_cons_zero, List.getD_cons_succ, List.set_cons_zero, List.set_cons_succ, and_true, Bool.false_eq_true, ↓reduceIte, Bool.not_true, gt_iff_lt]
    first | exact ⟨_, .same, rfl⟩ | exact ⟨_, .same⟩
  simp (maxSteps := 2000000) (disch := first | omega | (simp only [List.length_append, List.length_cons, List.length_nil, List.length_map] <;> omega)) only [hpq, h1, h2, h3, h4, Bool.not_true, q1, q2, q3, List.set_cons_zero, List.set_cons_succ, exc_str, swp_seq, swp_reg, swp_skip, swp_cond, seqK_n, condK_f, evK_some, appK_eq, appC_eq, grd_t, srun_nil, srun_cons, stepK_call, stepK_grd, sk_mv, sk_take, sk_pick, sk_bin, sk_un, sk_lenS, get_mk, raw_slot, raw_lit, put_some, wb_nil, ev_mv, ev_take, ev_pick, ev_not, ev_lenS, bin_gtr, bin_eqlS, ro_bool, ro_str, got_str, pubs, pubsFrom, List.map_cons, List.map_nil, List.getD_cons_zero, List.getD_cons_succ, List.set_cons_zero, List.set_cons_succ, Bool.false_eq_true, ↓reduceIte, Bool.not_true, gt_iff_lt]
  have hsrt := right_srt hR
  have hor := put_order (t := t) hsrt hne (a := a) (b := b)
  have hcm := ins_comm (a := a) (b := b) hne hsrt
  refine callK_intro (up (n12 hv hs hp ha ho)) ?_
  rcases put3 t p a (st.length + 2) [.cells [.str p], .cells [.str p, .str a], .cells ((insP p a t).flatMap fC)] with ⟨e1, n1, m1, e11, e12, e13⟩ | ⟨e11, e1l, e12, e13⟩ | ⟨e11, e1l, e12, e13⟩
  · rw [e11, e12, e13]
    simp (maxSteps := 2000000) (disch := first | omega | (simp only [List.length_append, List.length_cons, List.length_nil, List.length_map] <;> omega)) only [List.append_nil, q1, q2, q3, List.set_cons_zero, List.set_cons_succ, flg_int, flg_nilS, exc_str, swp_seq, swp_reg, seqK_n, evK_some, appK_eq, appC_eq, srun_nil, srun_cons, stepK_call, sk_mv, sk_give, sk_ext, get_mk, raw_slot, put_some, wb_nil, ev_mv, ev_give, ev_ext, ro_int, ro_str, ro_nilS, ro_tup, ro2_nilS, ro2_int, got_str, pubs, pubsFrom, List.map_cons, List.map_nil, List.getD_cons_zero, List.getD_cons_succ, List.set_cons_zero, List.set_cons_succ, List.getElem?_cons_zero, List.getElem?_cons_succ, Bool.false_eq_true, Option.map_some, ↓reduceIte, List.append_nil]
    refine callK_intro (up (n12 hv hs hq hb ho)) ?_
    rcases put3 t q b (st.length + 2) [.cells [.str q], .cells [.str q, .str b], .cells ((insP q b t).flatMap fC)] with ⟨e2, n2, m2, e21, e22, e23⟩ | ⟨e21, e2l, e22, e23⟩ | ⟨e21, e2l, e22, e23⟩
    · rw [e21, e22, e23]
      simp (maxSteps := 2000000) (disch := first | omega | (simp only [List.length_append, List.length_cons, List.length_nil, List.length_map] <;> omega)) only [n1, Bool.not_false, List.append_nil, nbI, List.set_cons_zero, List.set_cons_succ, flg_bool, flg_int, flg_nilS, swp_seq, swp_reg, swp_ret, swp_cond, seqK_n, seqK_r, condK_t, evK_some, appK_eq, appC_eq, grd_t, srun_nil, srun_cons, stepK_grd, fin_ret, sk_mv, sk_give, sk_pick, sk_bin, sk_ext, get_mk, raw_slot, raw_lit, put_some, wb_nil, ev_mv, ev_give, ev_pick, ev_ext, bin_neq, ro_int, ro_bool, ro_nilS, ro_tup, ro2_nilS, ro2_int, List.map_cons, List.map_nil, List.getD_cons_zero, List.getD_cons_succ, List.set_cons_zero, List.set_cons_succ, List.getElem?_cons_zero, List.getElem?_cons_succ, and_true, Bool.false_eq_true, Option.map_some, ↓reduceIte, List.append_nil, reduceCtorEq, Bool.not_false]
      first | exact ⟨_, .same, rfl⟩ | exact ⟨_, .same⟩
    · rw [e21, e22, e23]
      have o2 : okSt (st ++ [.cells [.str q], .cells [.str q, .str b], .cells ((insP q b t).flatMap fC)]) := okSt_appL ho (by simp [obOk, idOks, idOk, idOks_fC])
      have hU2 : RowF (st ++ [.cells [.str q], .cells [.str q, .str b], .cells ((insP q b t).flatMap fC)]) (.slo (st.length + 2) 0 t.length) (insP q b t) := slo_row (i := 2) rfl e2l
      generalize st ++ [.cells [.str q], .cells [.str q, .str b], .cells ((insP q b t).flatMap fC)] = s2 at o2 hU2  ⊢
      simp (maxSteps := 2000000) (disch := first | omega | (simp only [List.length_append, List.length_cons, List.length_nil, List.length_map] <;> omega)) only [n1, Bool.not_false, nbI, List.set_cons_zero, List.set_cons_succ, ro_slo, ro2_slo, flg_slo, flg_bool, flg_int, swp_seq, swp_reg, swp_ret, swp_cond, seqK_n, seqK_r, condK_t, evK_some, appK_eq, appC_eq, grd_t, srun_nil, srun_cons, stepK_grd, fin_ret, sk_mv, sk_give, sk_pick, sk_bin, sk_ext, get_mk, raw_slot, raw_lit, put_some, wb_nil, ev_mv, ev_give, ev_pick, ev_ext, bin_neq, ro_int, ro_bool, ro_tup, ro2_int, List.map_cons, List.map_nil, List.getD_cons_zero, List.getD_cons_succ, List.set_cons_zero, List.set_cons_succ, List.getElem?_cons_zero, List.getElem?_cons_succ, and_true, Bool.false_eq_true, Option.map_some, ↓reduceIte, reduceCtorEq, Bool.not_false]
      first | exact ⟨_, .same, rfl⟩ | exact ⟨_, .same⟩
    · rw [e21, e22, e23]
      have o2 := ho
      have hU2 : RowF st (.sl ((insP q b t).flatMap fC) (t.length + 1) .ro) (insP q b t) := ro_row e2l
      rw [List.append_nil]
      simp (maxSteps := 2000000) (disch := first | omega | (simp only [List.length_append, List.length_cons, List.length_nil, List.length_map] <;> omega)) only [n1, Bool.not_false, nbI, List.set_cons_zero, List.set_cons_succ, flg_bool, flg_int, flg_excl, swp_seq, swp_reg, swp_ret, swp_cond, seqK_n, seqK_r, condK_t, evK_some, appK_eq, appC_eq, grd_t, srun_nil, srun_cons, stepK_grd, fin_ret, sk_mv, sk_give, sk_pick, sk_bin, sk_ext, get_mk, raw_slot, raw_lit, put_some, wb_nil, wb_cons, ev_mv, ev_give, ev_pick, ev_ext, bin_neq, ro_int, ro_bool, ro_excl, ro_tup, ro2_int, List.map_cons, List.map_nil, List.getD_cons_zero, List.getD_cons_succ, List.set_cons_zero, List.set_cons_succ, List.getElem?_cons_zero, List.getElem?_cons_succ, and_true, Bool.false_eq_true, Option.map_some, ↓reduceIte, reduceCtorEq, Bool.not_false]
      first | exact ⟨_, .same, rfl⟩ | exact ⟨_, .same⟩
  · rw [e11, e12, e13]
    have o1 : okSt (st ++ [.cells [.str p], .cells [.str p, .str a], .cells ((insP p a t).flatMap fC)]) := okSt_appL ho (by simp [obOk, idOks, idOk, idOks_fC])
    have hU1 : RowF (st ++ [.cells [.str p], .cells [.str p, .str a], .cells ((insP p a t).flatMap fC)]) (.slo (st.length + 2) 0 t.length) (insP p a t) := slo_row (i := 2) rfl e1l
    replace hv : RowF (st ++ [.cells [.str p], .cells [.str p, .str a], .cells ((insP p a t).flatMap fC)]) v t := hv.mono _
    generalize st ++ [.cells [.str p], .cells [.str p, .str a], .cells ((insP p a t).flatMap fC)] = s1 at o1 hU1 hv ⊢
    obtain ⟨hh1, hR1, hG1⟩ := put_two e11
    have hs1 := smT_ins hs hp ha hR1
    simp (maxSteps := 2000000) (disch := first | omega | (simp only [List.length_append, List.length_cons, List.length_nil, List.length_map] <;> omega)) only [q1, q2, q3, List.set_cons_zero, List.set_cons_succ, ro_slo, ro2_slo, flg_slo, flg_int, exc_str, swp_seq, swp_reg, seqK_n, evK_some, appK_eq, appC_eq, srun_nil, srun_cons, stepK_call, sk_mv, sk_give, sk_ext, get_mk, raw_slot, put_some, wb_nil, ev_mv, ev_give, ev_ext, ro_int, ro_str, ro_tup, ro2_int, got_str, pubs, pubsFrom, List.map_cons, List.map_nil, List.getD_cons_zero, List.getD_cons_succ, List.set_cons_zero, List.set_cons_succ, List.getElem?_cons_zero, List.getElem?_cons_succ, Bool.false_eq_true, Option.map_some, ↓reduceIte]
    refine callK_intro (up (n12 hv hs hq hb o1)) ?_
    rcases put3 t q b (s1.length + 2) [.cells [.str q], .cells [.str q, .str b], .cells ((insP q b t).flatMap fC)] with ⟨e2, n2, m2, e21, e22, e23⟩ | ⟨e21, e2l, e22, e23⟩ | ⟨e21, e2l, e22, e23⟩
    · rw [e21, e22, e23]
      simp (maxSteps := 2000000) (disch := first | omega | (simp only [List.length_append, List.length_cons, List.length_nil, List.length_map] <;> omega)) only [n2, Bool.not_false, List.append_nil, nbI, List.set_cons_zero, List.set_cons_succ, flg_bool, flg_int, flg_nilS, exc_int, swp_seq, swp_reg, swp_ret, swp_cond, seqK_n, seqK_r, condK_t, evK_some, appK_eq, appC_eq, grd_t, srun_nil, srun_cons, stepK_grd, fin_ret, sk_mv, sk_take, sk_give, sk_pick, sk_bin, sk_ext, get_mk, raw_slot, raw_lit, put_some, wb_nil, ev_mv, ev_take, ev_give, ev_pick, ev_ext, bin_neq, ro_int, ro_bool, ro_nilS, ro_tup, ro2_nilS, ro2_int, got_int, List.map_cons, List.map_nil, List.getD_cons_zero, List.getD_cons_succ, List.set_cons_zero, List.set_cons_succ, List.getElem?_cons_zero, List.getElem?_cons_succ, and_true, Bool.false_eq_true, Option.map_some, ↓reduceIte, List.append_nil, Bool.not_false, bne_self_eq_false]
      first | exact ⟨_, .same, rfl⟩ | exact ⟨_, .same⟩
    · rw [e21, e22, e23]
      have o2 : okSt (s1 ++ [.cells [.str q], .cells [.str q, .str b], .cells ((insP q b t).flatMap fC)]) := okSt_appL o1 (by simp [obOk, idOks, idOk, idOks_fC])
      have hU2 : RowF (s1 ++ [.cells [.str q], .cells [.str q, .str b], .cells ((insP q b t).flatMap fC)]) (.slo (s1.length + 2) 0 t.length) (insP q b t) := slo_row (i := 2) rfl e2l
      replace hU1 : RowF (s1 ++ [.cells [.str q], .cells [.str q, .str b], .cells ((insP q b t).flatMap fC)]) (.slo (st.length + 2) 0 t.length) (insP p a t) := hU1.mono _
      generalize s1 ++ [.cells [.str q], .cells [.str q, .str b], .cells ((insP q b t).flatMap fC)] = s2 at o2 hU2 hU1 ⊢
      obtain ⟨hh2, hR2, hG2⟩ := put_two e21
      have hs2 := smT_ins hs hq hb hR2
      simp (maxSteps := 2000000) (disch := first | omega | (simp only [List.length_append, List.length_cons, List.length_nil, List.length_map] <;> omega)) only [List.set_cons_zero, List.set_cons_succ, ro_slo, ro2_slo, got_slo, flg_slo, exc_slo, flg_int, exc_int, exc_str, swp_seq, swp_reg, swp_skip, swp_cond, seqK_n, condK_f, evK_some, appK_eq, appC_eq, grd_t, srun_nil, srun_cons, stepK_call, stepK_grd, sk_mv, sk_take, sk_give, sk_pick, sk_bin, sk_ext, get_mk, raw_slot, raw_lit, put_some, wb_nil, ev_mv, ev_take, ev_give, ev_pick, ev_ext, bin_neq, ro_int, ro_bool, ro_str, ro_tup, ro2_int, got_int, got_str, pubs, pubsFrom, List.map_cons, List.map_nil, List.getD_cons_zero, List.getD_cons_succ, List.set_cons_zero, List.set_cons_succ, List.getElem?_cons_zero, List.getElem?_cons_succ, Bool.false_eq_true, Option.map_some, ↓reduceIte, bne_self_eq_false]
      have hor := hor (put_can e11).2 (put_can e21).2
      refine callK_intro (up (n12 hU1 hs1 hq hb o2)) ?_
      rcases put3 (insP p a t) q b (s2.length + 2) [.cells [.str q], .cells [.str q, .str b], .cells ((insP q b (insP p a t)).flatMap fC)] with ⟨e3, n3, m3, e31, e32, e33⟩ | ⟨e31, e3l, e32, e33⟩ | ⟨e31, e3l, e32, e33⟩
      · rw [e31, e32, e33]
        simp (maxSteps := 2000000) (disch := first | omega | (simp only [List.length_append, List.length_cons, List.length_nil, List.length_map] <;> omega)) only [List.append_nil, List.set_cons_zero, List.set_cons_succ, ro_slo, got_slo, exc_slo, flg_int, flg_nilS, exc_str, swp_seq, swp_reg, seqK_n, evK_some, appK_eq, appC_eq, srun_nil, srun_cons, stepK_call, sk_mv, sk_give, sk_ext, get_mk, raw_slot, put_some, wb_nil, ev_mv, ev_give, ev_ext, ro_int, ro_str, ro_nilS, ro_tup, ro2_nilS, ro2_int, got_str, pubs, pubsFrom, List.map_cons, List.map_nil, List.getD_cons_zero, List.getD_cons_succ, List.set_cons_zero, List.set_cons_succ, List.getElem?_cons_zero, List.getElem?_cons_succ, Bool.false_eq_true, Option.map_some, ↓reduceIte, List.append_nil]
        refine callK_intro (up (n12 hU2 hs2 hp ha o2)) ?_
        rcases put3 (insP q b t) p a (s2.length + 2) [.cells [.str p], .cells [.str p, .str a], .cells ((insP p a (insP q b t)).flatMap fC)] with ⟨e4, n4, m4, e41, e42, e43⟩ | ⟨e41, e4l, e42, e43⟩ | ⟨e41, e4l, e42, e43⟩
        · rw [e41, e42, e43]
          simp (maxSteps := 2000000) (disch := first | omega | (simp only [List.length_append, List.length_cons, List.length_nil, List.length_map] <;> omega)) only [n3, n4, zb, List.append_nil, List.set_cons_zero, List.set_cons_succ, flg_int, flg_nilS, exc_int, exc_nilS, swp_seq, swp_reg, seqK_n, evK_some, appK_eq, appC_eq, grd_t, srun_nil, srun_cons, stepK_call, stepK_grd, sk_mv, sk_take, sk_give, sk_pick, sk_bin, sk_eqB, sk_ext, get_mk, raw_slot, raw_lit, put_some, wb_nil, ev_mv, ev_take, ev_give, ev_pick, ev_eqB, ev_ext, bin_eql, ro_int, ro_bool, ro_nilS, ro_tup, ro2_nilS, ro2_int, got_int, got_nilS, pubs, pubsFrom, List.map_cons, List.map_nil, List.getD_cons_zero, List.getD_cons_succ, List.set_cons_zero, List.set_cons_succ, List.getElem?_cons_zero, List.getElem?_cons_succ, Bool.false_eq_true, Option.map_some, ↓reduceIte, List.append_nil]
          refine callK_intro (up (n23 (nilF _) (nilF _) (by simp))) ?_
          simp (maxSteps := 2000000) (disch := first | omega | (simp only [List.length_append, List.length_cons, List.length_nil, List.length_map] <;> omega)) only [List.set_cons_zero, List.set_cons_succ, flg_bool, swp_ret, seqK_n, evK_some, appK_eq, appC_eq, srun_nil, srun_cons, fin_ret, sk_give, sk_pick, get_mk, raw_slot, raw_lit, put_some, wb_nil, ev_give, ev_pick, ro_bool, List.map_cons, List.map_nil, List.getD_cons_zero, List.getD_cons_succ, List.set_cons_zero, List.set_cons_succ, and_true, Bool.false_eq_true, ↓reduceIte, decide_true]
          first | exact ⟨_, .same, rfl⟩ | exact ⟨_, .same⟩
        · rw [e41, e42, e43]
          have o4 : okSt (s2 ++ [.cells [.str p], .cells [.str p, .str a], .cells ((insP p a (insP q b t)).flatMap fC)]) := okSt_appL o2 (by simp [obOk, idOks, idOk, idOks_fC])
          have hU4 : RowF (s2 ++ [.cells [.str p], .cells [.str p, .str a], .cells ((insP p a (insP q b t)).flatMap fC)]) (.slo (s2.length + 2) 0 (insP q b t).length) (insP p a (insP q b t)) := slo_row (i := 2) rfl e4l
          generalize s2 ++ [.cells [.str p], .cells [.str p, .str a], .cells ((insP p a (insP q b t)).flatMap fC)] = s4 at o4 hU4  ⊢
          have c1 := (put_can e41).2
          have c2 : canPut (insP p a t) q b = 0 := hor.2 c1
          have c3 : putR (insP p a t) q b = (0, insP q b (insP p a t)) := by unfold putR; rw [if_pos hR1, if_pos c2]
          rw [c3] at e31; obtain rfl : (0 : Int) = e3 := congrArg Prod.fst e31; cases n3
        · rw [e41, e42, e43]
          have o4 := o2
          have hU4 : RowF s2 (.sl ((insP p a (insP q b t)).flatMap fC) ((insP q b t).length + 1) .ro) (insP p a (insP q b t)) := ro_row e4l
          rw [List.append_nil]
          have c1 := (put_can e41).2
          have c2 : canPut (insP p a t) q b = 0 := hor.2 c1
          have c3 : putR (insP p a t) q b = (0, insP q b (insP p a t)) := by unfold putR; rw [if_pos hR1, if_pos c2]
          rw [c3] at e31; obtain rfl : (0 : Int) = e3 := congrArg Prod.fst e31; cases n3
      · rw [e31, e32, e33]
        have o3 : okSt (s2 ++ [.cells [.str q], .cells [.str q, .str b], .cells ((insP q b (insP p a t)).flatMap fC)]) := okSt_appL o2 (by simp [obOk, idOks, idOk, idOks_fC])
        have hU3 : RowF (s2 ++ [.cells [.str q], .cells [.str q, .str b], .cells ((insP q b (insP p a t)).flatMap fC)]) (.slo (s2.length + 2) 0 (insP p a t).length) (insP q b (insP p a t)) := slo_row (i := 2) rfl e3l
        replace hU2 : RowF (s2 ++ [.cells [.str q], .cells [.str q, .str b], .cells ((insP q b (insP p a t)).flatMap fC)]) (.slo (s1.length + 2) 0 t.length) (insP q b t) := hU2.mono _
        generalize s2 ++ [.cells [.str q], .cells [.str q, .str b], .cells ((insP q b (insP p a t)).flatMap fC)] = s3 at o3 hU3 hU2 ⊢
        obtain ⟨hh3, hR3, hG3⟩ := put_two e31
        have hs3 := smT_ins hs1 hq hb hR3
        simp (maxSteps := 2000000) (disch := first | omega | (simp only [List.length_append, List.length_cons, List.length_nil, List.length_map] <;> omega)) only [List.set_cons_zero, List.set_cons_succ, ro_slo, ro2_slo, got_slo, flg_slo, exc_slo, flg_int, exc_str, swp_seq, swp_reg, seqK_n, evK_some, appK_eq, appC_eq, srun_nil, srun_cons, stepK_call, sk_mv, sk_give, sk_ext, get_mk, raw_slot, put_some, wb_nil, ev_mv, ev_give, ev_ext, ro_int, ro_str, ro_tup, ro2_int, got_str, pubs, pubsFrom, List.map_cons, List.map_nil, List.getD_cons_zero, List.getD_cons_succ, List.set_cons_zero, List.set_cons_succ, List.getElem?_cons_zero, List.getElem?_cons_succ, Bool.false_eq_true, Option.map_some, ↓reduceIte]
        refine callK_intro (up (n12 hU2 hs2 hp ha o3)) ?_
        rcases put3 (insP q b t) p a (s3.length + 2) [.cells [.str p], .cells [.str p, .str a], .cells ((insP p a (insP q b t)).flatMap fC)] with ⟨e4, n4, m4, e41, e42, e43⟩ | ⟨e41, e4l, e42, e43⟩ | ⟨e41, e4l, e42, e43⟩
        · rw [e41, e42, e43]
          have c1 := (put_can e31).2
          have c2 : canPut (insP q b t) p a = 0 := hor.1 c1
          have c3 : putR (insP q b t) p a = (0, insP p a (insP q b t)) := by unfold putR; rw [if_pos hR2, if_pos c2]
          rw [c3] at e41; obtain rfl : (0 : Int) = e4 := congrArg Prod.fst e41; cases n4
        · rw [e41, e42, e43]
          have o4 : okSt (s3 ++ [.cells [.str p], .cells [.str p, .str a], .cells ((insP p a (insP q b t)).flatMap fC)]) := okSt_appL o3 (by simp [obOk, idOks, idOk, idOks_fC])
          have hU4 : RowF (s3 ++ [.cells [.str p], .cells [.str p, .str a], .cells ((insP p a (insP q b t)).flatMap fC)]) (.slo (s3.length + 2) 0 (insP q b t).length) (insP p a (insP q b t)) := slo_row (i := 2) rfl e4l
          replace hU3 : RowF (s3 ++ [.cells [.str p], .cells [.str p, .str a], .cells ((insP p a (insP q b t)).flatMap fC)]) (.slo (s2.length + 2) 0 (insP p a t).length) (insP q b (insP p a t)) := hU3.mono _
          generalize s3 ++ [.cells [.str p], .cells [.str p, .str a], .cells ((insP p a (insP q b t)).flatMap fC)] = s4 at o4 hU4 hU3 ⊢
          simp (maxSteps := 2000000) (disch := first | omega | (simp only [List.length_append, List.length_cons, List.length_nil, List.length_map] <;> omega)) only [z0, zb, List.set_cons_zero, List.set_cons_succ, ro_slo, ro2_slo, got_slo, flg_slo, exc_slo, flg_int, exc_int, swp_seq, swp_reg, seqK_n, evK_some, appK_eq, appC_eq, grd_t, srun_nil, srun_cons, stepK_call, stepK_grd, sk_mv, sk_take, sk_give, sk_pick, sk_bin, sk_eqB, sk_ext, get_mk, raw_slot, raw_lit, put_some, wb_nil, ev_mv, ev_take, ev_give, ev_pick, ev_eqB, ev_ext, bin_eql, ro_int, ro_bool, ro_tup, ro2_int, got_int, pubs, pubsFrom, List.map_cons, List.map_nil, List.getD_cons_zero, List.getD_cons_succ, List.set_cons_zero, List.set_cons_succ, List.getElem?_cons_zero, List.getElem?_cons_succ, Bool.false_eq_true, Option.map_some, ↓reduceIte]
          refine callK_intro (up (n23 hU3 hU4 hs3.1)) ?_
          rw [hcm, show decide (insP p a (insP q b t) = insP p a (insP q b t)) = true from decide_eq_true rfl]
          simp (maxSteps := 2000000) (disch := first | omega | (simp only [List.length_append, List.length_cons, List.length_nil, List.length_map] <;> omega)) only [List.set_cons_zero, List.set_cons_succ, flg_bool, swp_ret, seqK_n, evK_some, appK_eq, appC_eq, srun_nil, srun_cons, fin_ret, sk_give, sk_pick, get_mk, raw_slot, raw_lit, put_some, wb_nil, ev_give, ev_pick, ro_bool, List.map_cons, List.map_nil, List.getD_cons_zero, List.getD_cons_succ, List.set_cons_zero, List.set_cons_succ, and_true, Bool.false_eq_true, ↓reduceIte]
          first | exact ⟨_, .same, rfl⟩ | exact ⟨_, .same⟩
        · rw [e41, e42, e43]
          have o4 := o3
          have hU4 : RowF s3 (.sl ((insP p a (insP q b t)).flatMap fC) ((insP q b t).length + 1) .ro) (insP p a (insP q b t)) := ro_row e4l
          rw [List.append_nil]
          simp (maxSteps := 2000000) (disch := first | omega | (simp only [List.length_append, List.length_cons, List.length_nil, List.length_map] <;> omega)) only [z0, zb, List.set_cons_zero, List.set_cons_succ, pub_excl2, got_slo, exc_slo, flg_int, flg_excl, exc_int, exc_ro, exc_excl, swp_seq, swp_reg, seqK_n, evK_some, appK_eq, appC_eq, grd_t, srun_nil, srun_cons, stepK_call, stepK_grd, sk_mv, sk_take, sk_give, sk_pick, sk_bin, sk_eqB, sk_ext, get_mk, raw_slot, raw_lit, put_some, wb_nil, wb_cons, ev_mv, ev_take, ev_give, ev_pick, ev_eqB, ev_ext, bin_eql, ro_int, ro_bool, ro_excl, ro_tup, ro2_int, got_excl, got_roo, got_int, pubs, pubsFrom, List.map_cons, List.map_nil, List.getD_cons_zero, List.getD_cons_succ, List.set_cons_zero, List.set_cons_succ, List.getElem?_cons_zero, List.getElem?_cons_succ, Bool.false_eq_true, Option.map_some, ↓reduceIte]
          refine callK_intro (up (n23 hU3 hU4 hs3.1)) ?_
          rw [hcm, show decide (insP p a (insP q b t) = insP p a (insP q b t)) = true from decide_eq_true rfl]
          simp (maxSteps := 2000000) (disch := first | omega | (simp only [List.length_append, List.length_cons, List.length_nil, List.length_map] <;> omega)) only [List.set_cons_zero, List.set_cons_succ, flg_bool, swp_ret, seqK_n, evK_some, appK_eq, appC_eq, srun_nil, srun_cons, fin_ret, sk_give, sk_pick, get_mk, raw_slot, raw_lit, put_some, wb_nil, ev_give, ev_pick, ro_bool, List.map_cons, List.map_nil, List.getD_cons_zero, List.getD_cons_succ, List.set_cons_zero, List.set_cons_succ, and_true, Bool.false_eq_true, ↓reduceIte]
          first | exact ⟨_, .same, rfl⟩ | exact ⟨_, .same⟩
      · rw [e31, e32, e33]
        have o3 := o2
        have hU3 : RowF s2 (.sl ((insP q b (insP p a t)).flatMap fC) ((insP p a t).length + 1) .ro) (insP q b (insP p a t)) := ro_row e3l
        rw [List.append_nil]
        obtain ⟨hh3, hR3, hG3⟩ := put_two e31
        have hs3 := smT_ins hs1 hq hb hR3
        simp (maxSteps := 2000000) (disch := first | omega | (simp only [List.length_append, List.length_cons, List.length_nil, List.length_map] <;> omega)) only [List.set_cons_zero, List.set_cons_succ, ro_slo, got_slo, exc_slo, flg_int, flg_excl, exc_str, swp_seq, swp_reg, seqK_n, evK_some, appK_eq, appC_eq, srun_nil, srun_cons, stepK_call, sk_mv, sk_give, sk_ext, get_mk, raw_slot, put_some, wb_nil, wb_cons, ev_mv, ev_give, ev_ext, ro_int, ro_str, ro_excl, ro_tup, ro2_int, got_str, pubs, pubsFrom, List.map_cons, List.map_nil, List.getD_cons_zero, List.getD_cons_succ, List.set_cons_zero, List.set_cons_succ, List.getElem?_cons_zero, List.getElem?_cons_succ, Bool.false_eq_true, Option.map_some, ↓reduceIte]
        refine callK_intro (up (n12 hU2 hs2 hp ha o3)) ?_
        rcases put3 (insP q b t) p a (s2.length + 2) [.cells [.str p], .cells [.str p, .str a], .cells ((insP p a (insP q b t)).flatMap fC)] with ⟨e4, n4, m4, e41, e42, e43⟩ | ⟨e41, e4l, e42, e43⟩ | ⟨e41, e4l, e42, e43⟩
        · rw [e41, e42, e43]
          have c1 := (put_can e31).2
          have c2 : canPut (insP q b t) p a = 0 := hor.1 c1
          have c3 : putR (insP q b t) p a = (0, insP p a (insP q b t)) := by unfold putR; rw [if_pos hR2, if_pos c2]
          rw [c3] at e41; obtain rfl : (0 : Int) = e4 := congrArg Prod.fst e41; cases n4
        · rw [e41, e42, e43]
          have o4 : okSt (s2 ++ [.cells [.str p], .cells [.str p, .str a], .cells ((insP p a (insP q b t)).flatMap fC)]) := okSt_appL o3 (by simp [obOk, idOks, idOk, idOks_fC])
          have hU4 : RowF (s2 ++ [.cells [.str p], .cells [.str p, .str a], .cells ((insP p a (insP q b t)).flatMap fC)]) (.slo (s2.length + 2) 0 (insP q b t).length) (insP p a (insP q b t)) := slo_row (i := 2) rfl e4l
          replace hU3 : RowF (s2 ++ [.cells [.str p], .cells [.str p, .str a], .cells ((insP p a (insP q b t)).flatMap fC)]) (.sl ((insP q b (insP p a t)).flatMap fC) ((insP p a t).length + 1) .ro) (insP q b (insP p a t)) := hU3.mono _
          generalize s2 ++ [.cells [.str p], .cells [.str p, .str a], .cells ((insP p a (insP q b t)).flatMap fC)] = s4 at o4 hU4 hU3 ⊢
          simp (maxSteps := 2000000) (disch := first | omega | (simp only [List.length_append, List.length_cons, List.length_nil, List.length_map] <;> omega)) only [z0, zb, List.set_cons_zero, List.set_cons_succ, pub_excl2, ro_slo, ro2_slo, got_slo, flg_slo, exc_slo, flg_int, exc_int, exc_ro, exc_excl, swp_seq, swp_reg, seqK_n, evK_some, appK_eq, appC_eq, grd_t, srun_nil, srun_cons, stepK_call, stepK_grd, sk_mv, sk_take, sk_give, sk_pick, sk_bin, sk_eqB, sk_ext, get_mk, raw_slot, raw_lit, put_some, wb_nil, wb_cons, ev_mv, ev_take, ev_give, ev_pick, ev_eqB, ev_ext, bin_eql, ro_int, ro_bool, ro_tup, ro2_int, got_excl, got_roo, got_int, pubs, pubsFrom, List.map_cons, List.map_nil, List.getD_cons_zero, List.getD_cons_succ, List.set_cons_zero, List.set_cons_succ, List.getElem?_cons_zero, List.getElem?_cons_succ, Bool.false_eq_true, Option.map_some, ↓reduceIte]
          refine callK_intro (up (n23 hU3 hU4 hs3.1)) ?_
          rw [hcm, show decide (insP p a (insP q b t) = insP p a (insP q b t)) = true from decide_eq_true rfl]
          simp (maxSteps := 2000000) (disch := first | omega | (simp only [List.length_append, List.length_cons, List.length_nil, List.length_map] <;> omega)) only [List.set_cons_zero, List.set_cons_succ, flg_bool, swp_ret, seqK_n, evK_some, appK_eq, appC_eq, srun_nil, srun_cons, fin_ret, sk_give, sk_pick, get_mk, raw_slot, raw_lit, put_some, wb_nil, ev_give, ev_pick, ro_bool, List.map_cons, List.map_nil, List.getD_cons_zero, List.getD_cons_succ, List.set_cons_zero, List.set_cons_succ, and_true, Bool.false_eq_true, ↓reduceIte]
          first | exact ⟨_, .same, rfl⟩ | exact ⟨_, .same⟩
        · rw [e41, e42, e43]
          have o4 := o3
          have hU4 : RowF s2 (.sl ((insP p a (insP q b t)).flatMap fC) ((insP q b t).length + 1) .ro) (insP p a (insP q b t)) := ro_row e4l
          rw [List.append_nil]
          simp (maxSteps := 2000000) (disch := first | omega | (simp only [List.length_append, List.length_cons, List.length_nil, List.length_map] <;> omega)) only [z0, zb, List.set_cons_zero, List.set_cons_succ, pub_excl2, flg_int, flg_excl, exc_int, exc_ro, exc_excl, swp_seq, swp_reg, seqK_n, evK_some, appK_eq, appC_eq, grd_t, srun_nil, srun_cons, stepK_call, stepK_grd, sk_mv, sk_take, sk_give, sk_pick, sk_bin, sk_eqB, sk_ext, get_mk, raw_slot, raw_lit, put_some, wb_nil, wb_cons, ev_mv, ev_take, ev_give, ev_pick, ev_eqB, ev_ext, bin_eql, ro_int, ro_bool, ro_excl, ro_tup, ro2_int, got_excl, got_roo, got_int, pubs, pubsFrom, List.map_cons, List.map_nil, List.getD_cons_zero, List.getD_cons_succ, List.set_cons_zero, List.set_cons_succ, List.getElem?_cons_zero, List.getElem?_cons_succ, Bool.false_eq_true, Option.map_some, ↓reduceIte]
          refine callK_intro (up (n23 hU3 hU4 hs3.1)) ?_
          rw [hcm, show decide (insP p a (insP q b t) = insP p a (insP q b t)) = true from decide_eq_true rfl]
          simp (maxSteps := 2000000) (disch := first | omega | (simp only [List.length_append, List.length_cons, List.length_nil, List.length_map] <;> omega)) only [List.set_cons_zero, List.set_cons_succ, flg_bool, swp_ret, seqK_n, evK_some, appK_eq, appC_eq, srun_nil, srun_cons, fin_ret, sk_give, sk_pick, get_mk, raw_slot, raw_lit, put_some, wb_nil, ev_give, ev_pick, ro_bool, List.map_cons, List.map_nil, List.getD_cons_zero, List.getD_cons_succ, List.set_cons_zero, List.set_cons_succ, and_true, Bool.false_eq_true, ↓reduceIte]
          first | exact ⟨_, .same, rfl⟩ | exact ⟨_, .same⟩
    · rw [e21, e22, e23]
      have o2 := o1
      have hU2 : RowF s1 (.sl ((insP q b t).flatMap fC) (t.length + 1) .ro) (insP q b t) := ro_row e2l
      rw [List.append_nil]
      obtain ⟨hh2, hR2, hG2⟩ := put_two e21
      have hs2 := smT_ins hs hq hb hR2
      simp (maxSteps := 2000000) (disch := first | omega | (simp only [List.length_append, List.length_cons, List.length_nil, List.length_map] <;> omega)) only [List.set_cons_zero, List.set_cons_succ, ro_slo, got_slo, exc_slo, flg_int, flg_excl, exc_int, exc_str, swp_seq, swp_reg, swp_skip, swp_cond, seqK_n, condK_f, evK_some, appK_eq, appC_eq, grd_t, srun_nil, srun_cons, stepK_call, stepK_grd, sk_mv, sk_take, sk_give, sk_pick, sk_bin, sk_ext, get_mk, raw_slot, raw_lit, put_some, wb_nil, wb_cons, ev_mv, ev_take, ev_give, ev_pick, ev_ext, bin_neq, ro_int, ro_bool, ro_str, ro_excl, ro_tup, ro2_int, got_int, got_str, pubs, pubsFrom, List.map_cons, List.map_nil, List.getD_cons_zero, List.getD_cons_succ, List.set_cons_zero, List.set_cons_succ, List.getElem?_cons_zero, List.getElem?_cons_succ, Bool.false_eq_true, Option.map_some, ↓reduceIte, bne_self_eq_false]
      have hor := hor (put_can e11).2 (put_can e21).2
      refine callK_intro (up (n12 hU1 hs1 hq hb o2)) ?_
      rcases put3 (insP p a t) q b (s1.length + 2) [.cells [.str q], .cells [.str q, .str b], .cells ((insP q b (insP p a t)).flatMap fC)] with ⟨e3, n3, m3, e31, e32, e33⟩ | ⟨e31, e3l, e32, e33⟩ | ⟨e31, e3l, e32, e33⟩
      · rw [e31, e32, e33]
        simp (maxSteps := 2000000) (disch := first | omega | (simp only [List.length_append, List.length_cons, List.length_nil, List.length_map] <;> omega)) only [List.append_nil, List.set_cons_zero, List.set_cons_succ, pub_excl2, flg_int, flg_nilS, exc_str, exc_excl, swp_seq, swp_reg, seqK_n, evK_some, appK_eq, appC_eq, srun_nil, srun_cons, stepK_call, sk_mv, sk_give, sk_ext, get_mk, raw_slot, put_some, wb_nil, ev_mv, ev_give, ev_ext, ro_int, ro_str, ro_nilS, ro_excl, ro_tup, ro2_nilS, ro2_int, got_excl, got_str, pubs, pubsFrom, List.map_cons, List.map_nil, List.getD_cons_zero, List.getD_cons_succ, List.set_cons_zero, List.set_cons_succ, List.getElem?_cons_zero, List.getElem?_cons_succ, Bool.false_eq_true, Option.map_some, ↓reduceIte, List.append_nil]
        refine callK_intro (up (n12 hU2 hs2 hp ha o2)) ?_
        rcases put3 (insP q b t) p a (s1.length + 2) [.cells [.str p], .cells [.str p, .str a], .cells ((insP p a (insP q b t)).flatMap fC)] with ⟨e4, n4, m4, e41, e42, e43⟩ | ⟨e41, e4l, e42, e43⟩ | ⟨e41, e4l, e42, e43⟩
        · rw [e41, e42, e43]
          simp (maxSteps := 2000000) (disch := first | omega | (simp only [List.length_append, List.length_cons, List.length_nil, List.length_map] <;> omega)) only [n3, n4, zb, List.append_nil, List.set_cons_zero, List.set_cons_succ, flg_int, flg_nilS, exc_int, exc_nilS, swp_seq, swp_reg, seqK_n, evK_some, appK_eq, appC_eq, grd_t, srun_nil, srun_cons, stepK_call, stepK_grd, sk_mv, sk_take, sk_give, sk_pick, sk_bin, sk_eqB, sk_ext, get_mk, raw_slot, raw_lit, put_some, wb_nil, wb_cons, ev_mv, ev_take, ev_give, ev_pick, ev_eqB, ev_ext, bin_eql, ro_int, ro_bool, ro_nilS, ro_tup, ro2_nilS, ro2_int, got_int, got_nilS, pubs, pubsFrom, List.map_cons, List.map_nil, List.getD_cons_zero, List.getD_cons_succ, List.set_cons_zero, List.set_cons_succ, List.getElem?_cons_zero, List.getElem?_cons_succ, Bool.false_eq_true, Option.map_some, ↓reduceIte, List.append_nil]
          refine callK_intro (up (n23 (nilF _) (nilF _) (by simp))) ?_
          simp (maxSteps := 2000000) (disch := first | omega | (simp only [List.length_append, List.length_cons, List.length_nil, List.length_map] <;> omega)) only [List.set_cons_zero, List.set_cons_succ, flg_bool, swp_ret, seqK_n, evK_some, appK_eq, appC_eq, srun_nil, srun_cons, fin_ret, sk_give, sk_pick, get_mk, raw_slot, raw_lit, put_some, wb_nil, ev_give, ev_pick, ro_bool, List.map_cons, List.map_nil, List.getD_cons_zero, List.getD_cons_succ, List.set_cons_zero, List.set_cons_succ, and_true, Bool.false_eq_true, ↓reduceIte, decide_true]
          first | exact ⟨_, .same, rfl⟩ | exact ⟨_, .same⟩
        · rw [e41, e42, e43]
          have o4 : okSt (s1 ++ [.cells [.str p], .cells [.str p, .str a], .cells ((insP p a (insP q b t)).flatMap fC)]) := okSt_appL o2 (by simp [obOk, idOks, idOk, idOks_fC])
          have hU4 : RowF (s1 ++ [.cells [.str p], .cells [.str p, .str a], .cells ((insP p a (insP q b t)).flatMap fC)]) (.slo (s1.length + 2) 0 (insP q b t).length) (insP p a (insP q b t)) := slo_row (i := 2) rfl e4l
          generalize s1 ++ [.cells [.str p], .cells [.str p, .str a], .cells ((insP p a (insP q b t)).flatMap fC)] = s4 at o4 hU4  ⊢
          have c1 := (put_can e41).2
          have c2 : canPut (insP p a t) q b = 0 := hor.2 c1
          have c3 : putR (insP p a t) q b = (0, insP q b (insP p a t)) := by unfold putR; rw [if_pos hR1, if_pos c2]
          rw [c3] at e31; obtain rfl : (0 : Int) = e3 := congrArg Prod.fst e31; cases n3
        · rw [e41, e42, e43]
          have o4 := o2
          have hU4 : RowF s1 (.sl ((insP p a (insP q b t)).flatMap fC) ((insP q b t).length + 1) .ro) (insP p a (insP q b t)) := ro_row e4l
          rw [List.append_nil]
          have c1 := (put_can e41).2
          have c2 : canPut (insP p a t) q b = 0 := hor.2 c1
          have c3 : putR (insP p a t) q b = (0, insP q b (insP p a t)) := by unfold putR; rw [if_pos hR1, if_pos c2]
          rw [c3] at e31; obtain rfl : (0 : Int) = e3 := congrArg Prod.fst e31; cases n3
      · rw [e31, e32, e33]
        have o3 : okSt (s1 ++ [.cells [.str q], .cells [.str q, .str b], .cells ((insP q b (insP p a t)).flatMap fC)]) := okSt_appL o2 (by simp [obOk, idOks, idOk, idOks_fC])
        have hU3 : RowF (s1 ++ [.cells [.str q], .cells [.str q, .str b], .cells ((insP q b (insP p a t)).flatMap fC)]) (.slo (s1.length + 2) 0 (insP p a t).length) (insP q b (insP p a t)) := slo_row (i := 2) rfl e3l
        replace hU2 : RowF (s1 ++ [.cells [.str q], .cells [.str q, .str b], .cells ((insP q b (insP p a t)).flatMap fC)]) (.sl ((insP q b t).flatMap fC) (t.length + 1) .ro) (insP q b t) := hU2.mono _
        generalize s1 ++ [.cells [.str q], .cells [.str q, .str b], .cells ((insP q b (insP p a t)).flatMap fC)] = s3 at o3 hU3 hU2 ⊢
        obtain ⟨hh3, hR3, hG3⟩ := put_two e31
        have hs3 := smT_ins hs1 hq hb hR3
        simp (maxSteps := 2000000) (disch := first | omega | (simp only [List.length_append, List.length_cons, List.length_nil, List.length_map] <;> omega)) only [List.set_cons_zero, List.set_cons_succ, pub_excl2, ro_slo, ro2_slo, flg_slo, flg_int, exc_str, exc_excl, swp_seq, swp_reg, seqK_n, evK_some, appK_eq, appC_eq, srun_nil, srun_cons, stepK_call, sk_mv, sk_give, sk_ext, get_mk, raw_slot, put_some, wb_nil, ev_mv, ev_give, ev_ext, ro_int, ro_str, ro_excl, ro_tup, ro2_int, got_excl, got_str, pubs, pubsFrom, List.map_cons, List.map_nil, List.getD_cons_zero, List.getD_cons_succ, List.set_cons_zero, List.set_cons_succ, List.getElem?_cons_zero, List.getElem?_cons_succ, Bool.false_eq_true, Option.map_some, ↓reduceIte]
        refine callK_intro (up (n12 hU2 hs2 hp ha o3)) ?_
        rcases put3 (insP q b t) p a (s3.length + 2) [.cells [.str p], .cells [.str p, .str a], .cells ((insP p a (insP q b t)).flatMap fC)] with ⟨e4, n4, m4, e41, e42, e43⟩ | ⟨e41, e4l, e42, e43⟩ | ⟨e41, e4l, e42, e43⟩
        · rw [e41, e42, e43]
          have c1 := (put_can e31).2
          have c2 : canPut (insP q b t) p a = 0 := hor.1 c1
          have c3 : putR (insP q b t) p a = (0, insP p a (insP q b t)) := by unfold putR; rw [if_pos hR2, if_pos c2]
          rw [c3] at e41; obtain rfl : (0 : Int) = e4 := congrArg Prod.fst e41; cases n4
        · rw [e41, e42, e43]
          have o4 : okSt (s3 ++ [.cells [.str p], .cells [.str p, .str a], .cells ((insP p a (insP q b t)).flatMap fC)]) := okSt_appL o3 (by simp [obOk, idOks, idOk, idOks_fC])
          have hU4 : RowF (s3 ++ [.cells [.str p], .cells [.str p, .str a], .cells ((insP p a (insP q b t)).flatMap fC)]) (.slo (s3.length + 2) 0 (insP q b t).length) (insP p a (insP q b t)) := slo_row (i := 2) rfl e4l
          replace hU3 : RowF (s3 ++ [.cells [.str p], .cells [.str p, .str a], .cells ((insP p a (insP q b t)).flatMap fC)]) (.slo (s1.length + 2) 0 (insP p a t).length) (insP q b (insP p a t)) := hU3.mono _
          generalize s3 ++ [.cells [.str p], .cells [.str p, .str a], .cells ((insP p a (insP q b t)).flatMap fC)] = s4 at o4 hU4 hU3 ⊢
          simp (maxSteps := 2000000) (disch := first | omega | (simp only [List.length_append, List.length_cons, List.length_nil, List.length_map] <;> omega)) only [z0, zb, List.set_cons_zero, List.set_cons_succ, ro_slo, ro2_slo, got_slo, flg_slo, exc_slo, flg_int, exc_int, swp_seq, swp_reg, seqK_n, evK_some, appK_eq, appC_eq, grd_t, srun_nil, srun_cons, stepK_call, stepK_grd, sk_mv, sk_take, sk_give, sk_pick, sk_bin, sk_eqB, sk_ext, get_mk, raw_slot, raw_lit, put_some, wb_nil, wb_cons, ev_mv, ev_take, ev_give, ev_pick, ev_eqB, ev_ext, bin_eql, ro_int, ro_bool, ro_tup, ro2_int, got_int, pubs, pubsFrom, List.map_cons, List.map_nil, List.getD_cons_zero, List.getD_cons_succ, List.set_cons_zero, List.set_cons_succ, List.getElem?_cons_zero, List.getElem?_cons_succ, Bool.false_eq_true, Option.map_some, ↓reduceIte]
          refine callK_intro (up (n23 hU3 hU4 hs3.1)) ?_
          rw [hcm, show decide (insP p a (insP q b t) = insP p a (insP q b t)) = true from decide_eq_true rfl]
          simp (maxSteps := 2000000) (disch := first | omega | (simp only [List.length_append, List.length_cons, List.length_nil, List.length_map] <;> omega)) only [List.set_cons_zero, List.set_cons_succ, flg_bool, swp_ret, seqK_n, evK_some, appK_eq, appC_eq, srun_nil, srun_cons, fin_ret, sk_give, sk_pick, get_mk, raw_slot, raw_lit, put_some, wb_nil, ev_give, ev_pick, ro_bool, List.map_cons, List.map_nil, List.getD_cons_zero, List.getD_cons_succ, List.set_cons_zero, List.set_cons_succ, and_true, Bool.false_eq_true, ↓reduceIte]
          first | exact ⟨_, .same, rfl⟩ | exact ⟨_, .same⟩
        · rw [e41, e42, e43]
          have o4 := o3
          have hU4 : RowF s3 (.sl ((insP p a (insP q b t)).flatMap fC) ((insP q b t).length + 1) .ro) (insP p a (insP q b t)) := ro_row e4l
          rw [List.append_nil]
          simp (maxSteps := 2000000) (disch := first | omega | (simp only [List.length_append, List.length_cons, List.length_nil, List.length_map] <;> omega)) only [z0, zb, List.set_cons_zero, List.set_cons_succ, pub_excl2, got_slo, exc_slo, flg_int, flg_excl, exc_int, exc_ro, exc_excl, swp_seq, swp_reg, seqK_n, evK_some, appK_eq, appC_eq, grd_t, srun_nil, srun_cons, stepK_call, stepK_grd, sk_mv, sk_take, sk_give, sk_pick, sk_bin, sk_eqB, sk_ext, get_mk, raw_slot, raw_lit, put_some, wb_nil, wb_cons, ev_mv, ev_take, ev_give, ev_pick, ev_eqB, ev_ext, bin_eql, ro_int, ro_bool, ro_excl, ro_tup, ro2_int, got_excl, got_roo, got_int, pubs, pubsFrom, List.map_cons, List.map_nil, List.getD_cons_zero, List.getD_cons_succ, List.set_cons_zero, List.set_cons_succ, List.getElem?_cons_zero, List.getElem?_cons_succ, Bool.false_eq_true, Option.map_some, ↓reduceIte]
          refine callK_intro (up (n23 hU3 hU4 hs3.1)) ?_
          rw [hcm, show decide (insP p a (insP q b t) = insP p a (insP q b t)) = true from decide_eq_true rfl]
          simp (maxSteps := 2000000) (disch := first | omega | (simp only [List.length_append, List.length_cons, List.length_nil, List.length_map] <;> omega)) only [List.set_cons_zero, List.set_cons_succ, flg_bool, swp_ret, seqK_n, evK_some, appK_eq, appC_eq, srun_nil, srun_cons, fin_ret, sk_give, sk_pick, get_mk, raw_slot, raw_lit, put_some, wb_nil, ev_give, ev_pick, ro_bool, List.map_cons, List.map_nil, List.getD_cons_zero, List.getD_cons_succ, List.set_cons_zero, List.set_cons_succ, and_true, Bool.false_eq_true, ↓reduceIte]
          first | exact ⟨_, .same, rfl⟩ | exact ⟨_, .same⟩
      · rw [e31, e32, e33]
        have o3 := o2
        have hU3 : RowF s1 (.sl ((insP q b (insP p a t)).flatMap fC) ((insP p a t).length + 1) .ro) (insP q b (insP p a t)) := ro_row e3l
        rw [List.append_nil]
        obtain ⟨hh3, hR3, hG3⟩ := put_two e31
        have hs3 := smT_ins hs1 hq hb hR3
        simp (maxSteps := 2000000) (disch := first | omega | (simp only [List.length_append, List.length_cons, List.length_nil, List.length_map] <;> omega)) only [List.set_cons_zero, List.set_cons_succ, pub_excl2, flg_int, flg_excl, exc_str, exc_excl, swp_seq, swp_reg, seqK_n, evK_some, appK_eq, appC_eq, srun_nil, srun_cons, stepK_call, sk_mv, sk_give, sk_ext, get_mk, raw_slot, put_some, wb_nil, wb_cons, ev_mv, ev_give, ev_ext, ro_int, ro_str, ro_excl, ro_tup, ro2_int, got_excl, got_str, pubs, pubsFrom, List.map_cons, List.map_nil, List.getD_cons_zero, List.getD_cons_succ, List.set_cons_zero, List.set_cons_succ, List.getElem?_cons_zero, List.getElem?_cons_succ, Bool.false_eq_true, Option.map_some, ↓reduceIte]
        refine callK_intro (up (n12 hU2 hs2 hp ha o3)) ?_
        rcases put3 (insP q b t) p a (s1.length + 2) [.cells [.str p], .cells [.str p, .str a], .cells ((insP p a (insP q b t)).flatMap fC)] with ⟨e4, n4, m4, e41, e42, e43⟩ | ⟨e41, e4l, e42, e43⟩ | ⟨e41, e4l, e42, e43⟩
        · rw [e41, e42, e43]
          have c1 := (put_can e31).2
          have c2 : canPut (insP q b t) p a = 0 := hor.1 c1
          have c3 : putR (insP q b t) p a = (0, insP p a (insP q b t)) := by unfold putR; rw [if_pos hR2, if_pos c2]
          rw [c3] at e41; obtain rfl : (0 : Int) = e4 := congrArg Prod.fst e41; cases n4
        · rw [e41, e42, e43]
          have o4 : okSt (s1 ++ [.cells [.str p], .cells [.str p, .str a], .cells ((insP p a (insP q b t)).flatMap fC)]) := okSt_appL o3 (by simp [obOk, idOks, idOk, idOks_fC])
          have hU4 : RowF (s1 ++ [.cells [.str p], .cells [.str p, .str a], .cells ((insP p a (insP q b t)).flatMap fC)]) (.slo (s1.length + 2) 0 (insP q b t).length) (insP p a (insP q b t)) := slo_row (i := 2) rfl e4l
          replace hU3 : RowF (s1 ++ [.cells [.str p], .cells [.str p, .str a], .cells ((insP p a (insP q b t)).flatMap fC)]) (.sl ((insP q b (insP p a t)).flatMap fC) ((insP p a t).length + 1) .ro) (insP q b (insP p a t)) := hU3.mono _
          generalize s1 ++ [.cells [.str p], .cells [.str p, .str a], .cells ((insP p a (insP q b t)).flatMap fC)] = s4 at o4 hU4 hU3 ⊢
          simp (maxSteps := 2000000) (disch := first | omega | (simp only [List.length_append, List.length_cons, List.length_nil, List.length_map] <;> omega)) only [z0, zb, List.set_cons_zero, List.set_cons_succ, pub_excl2, ro_slo, ro2_slo, got_slo, flg_slo, exc_slo, flg_int, exc_int, exc_ro, exc_excl, swp_seq, swp_reg, seqK_n, evK_some, appK_eq, appC_eq, grd_t, srun_nil, srun_cons, stepK_call, stepK_grd, sk_mv, sk_take, sk_give, sk_pick, sk_bin, sk_eqB, sk_ext, get_mk, raw_slot, raw_lit, put_some, wb_nil, wb_cons, ev_mv, ev_take, ev_give, ev_pick, ev_eqB, ev_ext, bin_eql, ro_int, ro_bool, ro_tup, ro2_int, got_excl, got_roo, got_int, pubs, pubsFrom, List.map_cons, List.map_nil, List.getD_cons_zero, List.getD_cons_succ, List.set_cons_zero, List.set_cons_succ, List.getElem?_cons_zero, List.getElem?_cons_succ, Bool.false_eq_true, Option.map_some, ↓reduceIte]
          refine callK_intro (up (n23 hU3 hU4 hs3.1)) ?_
          rw [hcm, show decide (insP p a (insP q b t) = insP p a (insP q b t)) = true from decide_eq_true rfl]
          simp (maxSteps := 2000000) (disch := first | omega | (simp only [List.length_append, List.length_cons, List.length_nil, List.length_map] <;> omega)) only [List.set_cons_zero, List.set_cons_succ, flg_bool, swp_ret, seqK_n, evK_some, appK_eq, appC_eq, srun_nil, srun_cons, fin_ret, sk_give, sk_pick, get_mk, raw_slot, raw_lit, put_some, wb_nil, ev_give, ev_pick, ro_bool, List.map_cons, List.map_nil, List.getD_cons_zero, List.getD_cons_succ, List.set_cons_zero, List.set_cons_succ, and_true, Bool.false_eq_true, ↓reduceIte]
          first | exact ⟨_, .same, rfl⟩ | exact ⟨_, .same⟩
        · rw [e41, e42, e43]
          have o4 := o3
          have hU4 : RowF s1 (.sl ((insP p a (insP q b t)).flatMap fC) ((insP q b t).length + 1) .ro) (insP p a (insP q b t)) := ro_row e4l
          rw [List.append_nil]
          simp (maxSteps := 2000000) (disch := first | omega | (simp only [List.length_append, List.length_cons, List.length_nil, List.length_map] <;> omega)) only [z0, zb, List.set_cons_zero, List.set_cons_succ, pub_excl2, flg_int, flg_excl, exc_int, exc_ro, exc_excl, swp_seq, swp_reg, seqK_n, evK_some, appK_eq, appC_eq, grd_t, srun_nil, srun_cons, stepK_call, stepK_grd, sk_mv, sk_take, sk_give, sk_pick, sk_bin, sk_eqB, sk_ext, get_mk, raw_slot, raw_lit, put_some, wb_nil, wb_cons, ev_mv, ev_take, ev_give, ev_pick, ev_eqB, ev_ext, bin_eql, ro_int, ro_bool, ro_excl, ro_tup, ro2_int, got_excl, got_roo, got_int, pubs, pubsFrom, List.map_cons, List.map_nil, List.getD_cons_zero, List.getD_cons_succ, List.set_cons_zero, List.set_cons_succ, List.getElem?_cons_zero, List.getElem?_cons_succ, Bool.false_eq_true, Option.map_some, ↓reduceIte]
          refine callK_intro (up (n23 hU3 hU4 hs3.1)) ?_
          rw [hcm, show decide (insP p a (insP q b t) = insP p a (insP q b t)) = true from decide_eq_true rfl]
          simp (maxSteps := 2000000) (disch := first | omega | (simp only [List.length_append, List.length_cons, List.length_nil, List.length_map] <;> omega)) only [List.set_cons_zero, List.set_cons_succ, flg_bool, swp_ret, seqK_n, evK_some, appK_eq, appC_eq, srun_nil, srun_cons, fin_ret, sk_give, sk_pick, get_mk, raw_slot, raw_lit, put_some, wb_nil, ev_give, ev_pick, ro_bool, List.map_cons, List.map_nil, List.getD_cons_zero, List.getD_cons_succ, List.set_cons_zero, List.set_cons_succ, and_true, Bool.false_eq_true, ↓reduceIte]
          first | exact ⟨_, .same, rfl⟩ | exact ⟨_, .same⟩
  · rw [e11, e12, e13]
    have o1 := ho
    have hU1 : RowF st (.sl ((insP p a t).flatMap fC) (t.length + 1) .ro) (insP p a t) := ro_row e1l
    rw [List.append_nil]
    obtain ⟨hh1, hR1, hG1⟩ := put_two e11
    have hs1 := smT_ins hs hp ha hR1
    simp (maxSteps := 2000000) (disch := first | omega | (simp only [List.length_append, List.length_cons, List.length_nil, List.length_map] <;> omega)) only [q1, q2, q3, List.set_cons_zero, List.set_cons_succ, flg_int, flg_excl, exc_str, swp_seq, swp_reg, seqK_n, evK_some, appK_eq, appC_eq, srun_nil, srun_cons, stepK_call, sk_mv, sk_give, sk_ext, get_mk, raw_slot, put_some, wb_nil, wb_cons, ev_mv, ev_give, ev_ext, ro_int, ro_str, ro_excl, ro_tup, ro2_int, got_str, pubs, pubsFrom, List.map_cons, List.map_nil, List.getD_cons_zero, List.getD_cons_succ, List.set_cons_zero, List.set_cons_succ, List.getElem?_cons_zero, List.getElem?_cons_succ, Bool.false_eq_true, Option.map_some, ↓reduceIte]
    refine callK_intro (up (n12 hv hs hq hb o1)) ?_
    rcases put3 t q b (st.length + 2) [.cells [.str q], .cells [.str q, .str b], .cells ((insP q b t).flatMap fC)] with ⟨e2, n2, m2, e21, e22, e23⟩ | ⟨e21, e2l, e22, e23⟩ | ⟨e21, e2l, e22, e23⟩
    · rw [e21, e22, e23]
      simp (maxSteps := 2000000) (disch := first | omega | (simp only [List.length_append, List.length_cons, List.length_nil, List.length_map] <;> omega)) only [n2, Bool.not_false, List.append_nil, nbI, List.set_cons_zero, List.set_cons_succ, flg_bool, flg_int, flg_nilS, exc_int, swp_seq, swp_reg, swp_ret, swp_cond, seqK_n, seqK_r, condK_t, evK_some, appK_eq, appC_eq, grd_t, srun_nil, srun_cons, stepK_grd, fin_ret, sk_mv, sk_take, sk_give, sk_pick, sk_bin, sk_ext, get_mk, raw_slot, raw_lit, put_some, wb_nil, ev_mv, ev_take, ev_give, ev_pick, ev_ext, bin_neq, ro_int, ro_bool, ro_nilS, ro_tup, ro2_nilS, ro2_int, got_int, List.map_cons, List.map_nil, List.getD_cons_zero, List.getD_cons_succ, List.set_cons_zero, List.set_cons_succ, List.getElem?_cons_zero, List.getElem?_cons_succ, and_true, Bool.false_eq_true, Option.map_some, ↓reduceIte, List.append_nil, Bool.not_false, bne_self_eq_false]
      first | exact ⟨_, .same, rfl⟩ | exact ⟨_, .same⟩
    · rw [e21, e22, e23]
      have o2 : okSt (st ++ [.cells [.str q], .cells [.str q, .str b], .cells ((insP q b t).flatMap fC)]) := okSt_appL o1 (by simp [obOk, idOks, idOk, idOks_fC])
      have hU2 : RowF (st ++ [.cells [.str q], .cells [.str q, .str b], .cells ((insP q b t).flatMap fC)]) (.slo (st.length + 2) 0 t.length) (insP q b t) := slo_row (i := 2) rfl e2l
      replace hU1 : RowF (st ++ [.cells [.str q], .cells [.str q, .str b], .cells ((insP q b t).flatMap fC)]) (.sl ((insP p a t).flatMap fC) (t.length + 1) .ro) (insP p a t) := hU1.mono _
      generalize st ++ [.cells [.str q], .cells [.str q, .str b], .cells ((insP q b t).flatMap fC)] = s2 at o2 hU2 hU1 ⊢
      obtain ⟨hh2, hR2, hG2⟩ := put_two e21
      have hs2 := smT_ins hs hq hb hR2
      simp (maxSteps := 2000000) (disch := first | omega | (simp only [List.length_append, List.length_cons, List.length_nil, List.length_map] <;> omega)) only [List.set_cons_zero, List.set_cons_succ, pub_excl2, ro_slo, ro2_slo, flg_slo, flg_int, exc_int, exc_str, exc_excl, swp_seq, swp_reg, swp_skip, swp_cond, seqK_n, condK_f, evK_some, appK_eq, appC_eq, grd_t, srun_nil, srun_cons, stepK_call, stepK_grd, sk_mv, sk_take, sk_give, sk_pick, sk_bin, sk_ext, get_mk, raw_slot, raw_lit, put_some, wb_nil, ev_mv, ev_take, ev_give, ev_pick, ev_ext, bin_neq, ro_int, ro_bool, ro_str, ro_excl, ro_tup, ro2_int, got_excl, got_int, got_str, pubs, pubsFrom, List.map_cons, List.map_nil, List.getD_cons_zero, List.getD_cons_succ, List.set_cons_zero, List.set_cons_succ, List.getElem?_cons_zero, List.getElem?_cons_succ, Bool.false_eq_true, Option.map_some, ↓reduceIte, bne_self_eq_false]
      have hor := hor (put_can e11).2 (put_can e21).2
      refine callK_intro (up (n12 hU1 hs1 hq hb o2)) ?_
      rcases put3 (insP p a t) q b (s2.length + 2) [.cells [.str q], .cells [.str q, .str b], .cells ((insP q b (insP p a t)).flatMap fC)] with ⟨e3, n3, m3, e31, e32, e33⟩ | ⟨e31, e3l, e32, e33⟩ | ⟨e31, e3l, e32, e33⟩
      · rw [e31, e32, e33]
        simp (maxSteps := 2000000) (disch := first | omega | (simp only [List.length_append, List.length_cons, List.length_nil, List.length_map] <;> omega)) only [List.append_nil, List.set_cons_zero, List.set_cons_succ, ro_slo, got_slo, exc_slo, flg_int, flg_nilS, exc_str, swp_seq, swp_reg, seqK_n, evK_some, appK_eq, appC_eq, srun_nil, srun_cons, stepK_call, sk_mv, sk_give, sk_ext, get_mk, raw_slot, put_some, wb_nil, wb_cons, ev_mv, ev_give, ev_ext, ro_int, ro_str, ro_nilS, ro_tup, ro2_nilS, ro2_int, got_str, pubs, pubsFrom, List.map_cons, List.map_nil, List.getD_cons_zero, List.getD_cons_succ, List.set_cons_zero, List.set_cons_succ, List.getElem?_cons_zero, List.getElem?_cons_succ, Bool.false_eq_true, Option.map_some, ↓reduceIte, List.append_nil]
        refine callK_intro (up (n12 hU2 hs2 hp ha o2)) ?_
        rcases put3 (insP q b t) p a (s2.length + 2) [.cells [.str p], .cells [.str p, .str a], .cells ((insP p a (insP q b t)).flatMap fC)] with ⟨e4, n4, m4, e41, e42, e43⟩ | ⟨e41, e4l, e42, e43⟩ | ⟨e41, e4l, e42, e43⟩
        · rw [e41, e42, e43]
          simp (maxSteps := 2000000) (disch := first | omega | (simp only [List.length_append, List.length_cons, List.length_nil, List.length_map] <;> omega)) only [n3, n4, zb, List.append_nil, List.set_cons_zero, List.set_cons_succ, flg_int, flg_nilS, exc_int, exc_nilS, swp_seq, swp_reg, seqK_n, evK_some, appK_eq, appC_eq, grd_t, srun_nil, srun_cons, stepK_call, stepK_grd, sk_mv, sk_take, sk_give, sk_pick, sk_bin, sk_eqB, sk_ext, get_mk, raw_slot, raw_lit, put_some, wb_nil, ev_mv, ev_take, ev_give, ev_pick, ev_eqB, ev_ext, bin_eql, ro_int, ro_bool, ro_nilS, ro_tup, ro2_nilS, ro2_int, got_int, got_nilS, pubs, pubsFrom, List.map_cons, List.map_nil, List.getD_cons_zero, List.getD_cons_succ, List.set_cons_zero, List.set_cons_succ, List.getElem?_cons_zero, List.getElem?_cons_succ, Bool.false_eq_true, Option.map_some, ↓reduceIte, List.append_nil]
          refine callK_intro (up (n23 (nilF _) (nilF _) (by simp))) ?_
          simp (maxSteps := 2000000) (disch := first | omega | (simp only [List.length_append, List.length_cons, List.length_nil, List.length_map] <;> omega)) only [List.set_cons_zero, List.set_cons_succ, flg_bool, swp_ret, seqK_n, evK_some, appK_eq, appC_eq, srun_nil, srun_cons, fin_ret, sk_give, sk_pick, get_mk, raw_slot, raw_lit, put_some, wb_nil, ev_give, ev_pick, ro_bool, List.map_cons, List.map_nil, List.getD_cons_zero, List.getD_cons_succ, List.set_cons_zero, List.set_cons_succ, and_true, Bool.false_eq_true, ↓reduceIte, decide_true]
          first | exact ⟨_, .same, rfl⟩ | exact ⟨_, .same⟩
        · rw [e41, e42, e43]
          have o4 : okSt (s2 ++ [.cells [.str p], .cells [.str p, .str a], .cells ((insP p a (insP q b t)).flatMap fC)]) := okSt_appL o2 (by simp [obOk, idOks, idOk, idOks_fC])
          have hU4 : RowF (s2 ++ [.cells [.str p], .cells [.str p, .str a], .cells ((insP p a (insP q b t)).flatMap fC)]) (.slo (s2.length + 2) 0 (insP q b t).length) (insP p a (insP q b t)) := slo_row (i := 2) rfl e4l
          generalize s2 ++ [.cells [.str p], .cells [.str p, .str a], .cells ((insP p a (insP q b t)).flatMap fC)] = s4 at o4 hU4  ⊢
          have c1 := (put_can e41).2
          have c2 : canPut (insP p a t) q b = 0 := hor.2 c1
          have c3 : putR (insP p a t) q b = (0, insP q b (insP p a t)) := by unfold putR; rw [if_pos hR1, if_pos c2]
          rw [c3] at e31; obtain rfl : (0 : Int) = e3 := congrArg Prod.fst e31; cases n3
        · rw [e41, e42, e43]
          have o4 := o2
          have hU4 : RowF s2 (.sl ((insP p a (insP q b t)).flatMap fC) ((insP q b t).length + 1) .ro) (insP p a (insP q b t)) := ro_row e4l
          rw [List.append_nil]
          have c1 := (put_can e41).2
          have c2 : canPut (insP p a t) q b = 0 := hor.2 c1
          have c3 : putR (insP p a t) q b = (0, insP q b (insP p a t)) := by unfold putR; rw [if_pos hR1, if_pos c2]
          rw [c3] at e31; obtain rfl : (0 : Int) = e3 := congrArg Prod.fst e31; cases n3
      · rw [e31, e32, e33]
        have o3 : okSt (s2 ++ [.cells [.str q], .cells [.str q, .str b], .cells ((insP q b (insP p a t)).flatMap fC)]) := okSt_appL o2 (by simp [obOk, idOks, idOk, idOks_fC])
        have hU3 : RowF (s2 ++ [.cells [.str q], .cells [.str q, .str b], .cells ((insP q b (insP p a t)).flatMap fC)]) (.slo (s2.length + 2) 0 (insP p a t).length) (insP q b (insP p a t)) := slo_row (i := 2) rfl e3l
        replace hU2 : RowF (s2 ++ [.cells [.str q], .cells [.str q, .str b], .cells ((insP q b (insP p a t)).flatMap fC)]) (.slo (st.length + 2) 0 t.length) (insP q b t) := hU2.mono _
        generalize s2 ++ [.cells [.str q], .cells [.str q, .str b], .cells ((insP q b (insP p a t)).flatMap fC)] = s3 at o3 hU3 hU2 ⊢
        obtain ⟨hh3, hR3, hG3⟩ := put_two e31
        have hs3 := smT_ins hs1 hq hb hR3
        simp (maxSteps := 2000000) (disch := first | omega | (simp only [List.length_append, List.length_cons, List.length_nil, List.length_map] <;> omega)) only [List.set_cons_zero, List.set_cons_succ, ro_slo, ro2_slo, got_slo, flg_slo, exc_slo, flg_int, exc_str, swp_seq, swp_reg, seqK_n, evK_some, appK_eq, appC_eq, srun_nil, srun_cons, stepK_call, sk_mv, sk_give, sk_ext, get_mk, raw_slot, put_some, wb_nil, wb_cons, ev_mv, ev_give, ev_ext, ro_int, ro_str, ro_tup, ro2_int, got_str, pubs, pubsFrom, List.map_cons, List.map_nil, List.getD_cons_zero, List.getD_cons_succ, List.set_cons_zero, List.set_cons_succ, List.getElem?_cons_zero, List.getElem?_cons_succ, Bool.false_eq_true, Option.map_some, ↓reduceIte]
        refine callK_intro (up (n12 hU2 hs2 hp ha o3)) ?_
        rcases put3 (insP q b t) p a (s3.length + 2) [.cells [.str p], .cells [.str p, .str a], .cells ((insP p a (insP q b t)).flatMap fC)] with ⟨e4, n4, m4, e41, e42, e43⟩ | ⟨e41, e4l, e42, e43⟩ | ⟨e41, e4l, e42, e43⟩
        · rw [e41, e42, e43]
          have c1 := (put_can e31).2
          have c2 : canPut (insP q b t) p a = 0 := hor.1 c1
          have c3 : putR (insP q b t) p a = (0, insP p a (insP q b t)) := by unfold putR; rw [if_pos hR2, if_pos c2]
          rw [c3] at e41; obtain rfl : (0 : Int) = e4 := congrArg Prod.fst e41; cases n4
        · rw [e41, e42, e43]
          have o4 : okSt (s3 ++ [.cells [.str p], .cells [.str p, .str a], .cells ((insP p a (insP q b t)).flatMap fC)]) := okSt_appL o3 (by simp [obOk, idOks, idOk, idOks_fC])
          have hU4 : RowF (s3 ++ [.cells [.str p], .cells [.str p, .str a], .cells ((insP p a (insP q b t)).flatMap fC)]) (.slo (s3.length + 2) 0 (insP q b t).length) (insP p a (insP q b t)) := slo_row (i := 2) rfl e4l
          replace hU3 : RowF (s3 ++ [.cells [.str p], .cells [.str p, .str a], .cells ((insP p a (insP q b t)).flatMap fC)]) (.slo (s2.length + 2) 0 (insP p a t).length) (insP q b (insP p a t)) := hU3.mono _
          generalize s3 ++ [.cells [.str p], .cells [.str p, .str a], .cells ((insP p a (insP q b t)).flatMap fC)] = s4 at o4 hU4 hU3 ⊢
          simp (maxSteps := 2000000) (disch := first | omega | (simp only [List.length_append, List.length_cons, List.length_nil, List.length_map] <;> omega)) only [z0, zb, List.set_cons_zero, List.set_cons_succ, ro_slo, ro2_slo, got_slo, flg_slo, exc_slo, flg_int, exc_int, swp_seq, swp_reg, seqK_n, evK_some, appK_eq, appC_eq, grd_t, srun_nil, srun_cons, stepK_call, stepK_grd, sk_mv, sk_take, sk_give, sk_pick, sk_bin, sk_eqB, sk_ext, get_mk, raw_slot, raw_lit, put_some, wb_nil, ev_mv, ev_take, ev_give, ev_pick, ev_eqB, ev_ext, bin_eql, ro_int, ro_bool, ro_tup, ro2_int, got_int, pubs, pubsFrom, List.map_cons, List.map_nil, List.getD_cons_zero, List.getD_cons_succ, List.set_cons_zero, List.set_cons_succ, List.getElem?_cons_zero, List.getElem?_cons_succ, Bool.false_eq_true, Option.map_some, ↓reduceIte]
          refine callK_intro (up (n23 hU3 hU4 hs3.1)) ?_
          rw [hcm, show decide (insP p a (insP q b t) = insP p a (insP q b t)) = true from decide_eq_true rfl]
          simp (maxSteps := 2000000) (disch := first | omega | (simp only [List.length_append, List.length_cons, List.length_nil, List.length_map] <;> omega)) only [List.set_cons_zero, List.set_cons_succ, flg_bool, swp_ret, seqK_n, evK_some, appK_eq, appC_eq, srun_nil, srun_cons, fin_ret, sk_give, sk_pick, get_mk, raw_slot, raw_lit, put_some, wb_nil, ev_give, ev_pick, ro_bool, List.map_cons, List.map_nil, List.getD_cons_zero, List.getD_cons_succ, List.set_cons_zero, List.set_cons_succ, and_true, Bool.false_eq_true, ↓reduceIte]
          first | exact ⟨_, .same, rfl⟩ | exact ⟨_, .same⟩
        · rw [e41, e42, e43]
          have o4 := o3
          have hU4 : RowF s3 (.sl ((insP p a (insP q b t)).flatMap fC) ((insP q b t).length + 1) .ro) (insP p a (insP q b t)) := ro_row e4l
          rw [List.append_nil]
          simp (maxSteps := 2000000) (disch := first | omega | (simp only [List.length_append, List.length_cons, List.length_nil, List.length_map] <;> omega)) only [z0, zb, List.set_cons_zero, List.set_cons_succ, pub_excl2, got_slo, exc_slo, flg_int, flg_excl, exc_int, exc_ro, exc_excl, swp_seq, swp_reg, seqK_n, evK_some, appK_eq, appC_eq, grd_t, srun_nil, srun_cons, stepK_call, stepK_grd, sk_mv, sk_take, sk_give, sk_pick, sk_bin, sk_eqB, sk_ext, get_mk, raw_slot, raw_lit, put_some, wb_nil, wb_cons, ev_mv, ev_take, ev_give, ev_pick, ev_eqB, ev_ext, bin_eql, ro_int, ro_bool, ro_excl, ro_tup, ro2_int, got_excl, got_roo, got_int, pubs, pubsFrom, List.map_cons, List.map_nil, List.getD_cons_zero, List.getD_cons_succ, List.set_cons_zero, List.set_cons_succ, List.getElem?_cons_zero, List.getElem?_cons_succ, Bool.false_eq_true, Option.map_some, ↓reduceIte]
          refine callK_intro (up (n23 hU3 hU4 hs3.1)) ?_
          rw [hcm, show decide (insP p a (insP q b t) = insP p a (insP q b t)) = true from decide_eq_true rfl]
          simp (maxSteps := 2000000) (disch := first | omega | (simp only [List.length_append, List.length_cons, List.length_nil, List.length_map] <;> omega)) only [List.set_cons_zero, List.set_cons_succ, flg_bool, swp_ret, seqK_n, evK_some, appK_eq, appC_eq, srun_nil, srun_cons, fin_ret, sk_give, sk_pick, get_mk, raw_slot, raw_lit, put_some, wb_nil, ev_give, ev_pick, ro_bool, List.map_cons, List.map_nil, List.getD_cons_zero, List.getD_cons_succ, List.set_cons_zero, List.set_cons_succ, and_true, Bool.false_eq_true, ↓reduceIte]
          first | exact ⟨_, .same, rfl⟩ | exact ⟨_, .same⟩
      · rw [e31, e32, e33]
        have o3 := o2
        have hU3 : RowF s2 (.sl ((insP q b (insP p a t)).flatMap fC) ((insP p a t).length + 1) .ro) (insP q b (insP p a t)) := ro_row e3l
        rw [List.append_nil]
        obtain ⟨hh3, hR3, hG3⟩ := put_two e31
        have hs3 := smT_ins hs1 hq hb hR3
        simp (maxSteps := 2000000) (disch := first | omega | (simp only [List.length_append, List.length_cons, List.length_nil, List.length_map] <;> omega)) only [List.set_cons_zero, List.set_cons_succ, ro_slo, got_slo, exc_slo, flg_int, flg_excl, exc_str, swp_seq, swp_reg, seqK_n, evK_some, appK_eq, appC_eq, srun_nil, srun_cons, stepK_call, sk_mv, sk_give, sk_ext, get_mk, raw_slot, put_some, wb_nil, wb_cons, ev_mv, ev_give, ev_ext, ro_int, ro_str, ro_excl, ro_tup, ro2_int, got_str, pubs, pubsFrom, List.map_cons, List.map_nil, List.getD_cons_zero, List.getD_cons_succ, List.set_cons_zero, List.set_cons_succ, List.getElem?_cons_zero, List.getElem?_cons_succ, Bool.false_eq_true, Option.map_some, ↓reduceIte]
        refine callK_intro (up (n12 hU2 hs2 hp ha o3)) ?_
        rcases put3 (insP q b t) p a (s2.length + 2) [.cells [.str p], .cells [.str p, .str a], .cells ((insP p a (insP q b t)).flatMap fC)] with ⟨e4, n4, m4, e41, e42, e43⟩ | ⟨e41, e4l, e42, e43⟩ | ⟨e41, e4l, e42, e43⟩
        · rw [e41, e42, e43]
          have c1 := (put_can e31).2
          have c2 : canPut (insP q b t) p a = 0 := hor.1 c1
          have c3 : putR (insP q b t) p a = (0, insP p a (insP q b t)) := by unfold putR; rw [if_pos hR2, if_pos c2]
          rw [c3] at e41; obtain rfl : (0 : Int) = e4 := congrArg Prod.fst e41; cases n4
        · rw [e41, e42, e43]
          have o4 : okSt (s2 ++ [.cells [.str p], .cells [.str p, .str a], .cells ((insP p a (insP q b t)).flatMap fC)]) := okSt_appL o3 (by simp [obOk, idOks, idOk, idOks_fC])
          have hU4 : RowF (s2 ++ [.cells [.str p], .cells [.str p, .str a], .cells ((insP p a (insP q b t)).flatMap fC)]) (.slo (s2.length + 2) 0 (insP q b t).length) (insP p a (insP q b t)) := slo_row (i := 2) rfl e4l
          replace hU3 : RowF (s2 ++ [.cells [.str p], .cells [.str p, .str a], .cells ((insP p a (insP q b t)).flatMap fC)]) (.sl ((insP q b (insP p a t)).flatMap fC) ((insP p a t).length + 1) .ro) (insP q b (insP p a t)) := hU3.mono _
          generalize s2 ++ [.cells [.str p], .cells [.str p, .str a], .cells ((insP p a (insP q b t)).flatMap fC)] = s4 at o4 hU4 hU3 ⊢
          simp (maxSteps := 2000000) (disch := first | omega | (simp only [List.length_append, List.length_cons, List.length_nil, List.length_map] <;> omega)) only [z0, zb, List.set_cons_zero, List.set_cons_succ, pub_excl2, ro_slo, ro2_slo, got_slo, flg_slo, exc_slo, flg_int, exc_int, exc_ro, exc_excl, swp_seq, swp_reg, seqK_n, evK_some, appK_eq, appC_eq, grd_t, srun_nil, srun_cons, stepK_call, stepK_grd, sk_mv, sk_take, sk_give, sk_pick, sk_bin, sk_eqB, sk_ext, get_mk, raw_slot, raw_lit, put_some, wb_nil, wb_cons, ev_mv, ev_take, ev_give, ev_pick, ev_eqB, ev_ext, bin_eql, ro_int, ro_bool, ro_tup, ro2_int, got_excl, got_roo, got_int, pubs, pubsFrom, List.map_cons, List.map_nil, List.getD_cons_zero, List.getD_cons_succ, List.set_cons_zero, List.set_cons_succ, List.getElem?_cons_zero, List.getElem?_cons_succ, Bool.false_eq_true, Option.map_some, ↓reduceIte]
          refine callK_intro (up (n23 hU3 hU4 hs3.1)) ?_
          rw [hcm, show decide (insP p a (insP q b t) = insP p a (insP q b t)) = true from decide_eq_true rfl]
          simp (maxSteps := 2000000) (disch := first | omega | (simp only [List.length_append, List.length_cons, List.length_nil, List.length_map] <;> omega)) only [List.set_cons_zero, List.set_cons_succ, flg_bool, swp_ret, seqK_n, evK_some, appK_eq, appC_eq, srun_nil, srun_cons, fin_ret, sk_give, sk_pick, get_mk, raw_slot, raw_lit, put_some, wb_nil, ev_give, ev_pick, ro_bool, List.map_cons, List.map_nil, List.getD_cons_zero, List.getD_cons_succ, List.set_cons_zero, List.set_cons_succ, and_true, Bool.false_eq_true, ↓reduceIte]
          first | exact ⟨_, .same, rfl⟩ | exact ⟨_, .same⟩
        · rw [e41, e42, e43]
          have o4 := o3
          have hU4 : RowF s2 (.sl ((insP p a (insP q b t)).flatMap fC) ((insP q b t).length + 1) .ro) (insP p a (insP q b t)) := ro_row e4l
          rw [List.append_nil]
          simp (maxSteps := 2000000) (disch := first | omega | (simp only [List.length_append, List.length_cons, List.length_nil, List.length_map] <;> omega)) only [z0, zb, List.set_cons_zero, List.set_cons_succ, pub_excl2, flg_int, flg_excl, exc_int, exc_ro, exc_excl, swp_seq, swp_reg, seqK_n, evK_some, appK_eq, appC_eq, grd_t, srun_nil, srun_cons, stepK_call, stepK_grd, sk_mv, sk_take, sk_give, sk_pick, sk_bin, sk_eqB, sk_ext, get_mk, raw_slot, raw_lit, put_some, wb_nil, wb_cons, ev_mv, ev_take, ev_give, ev_pick, ev_eqB, ev_ext, bin_eql, ro_int, ro_bool, ro_excl, ro_tup, ro2_int, got_excl, got_roo, got_int, pubs, pubsFrom, List.map_cons, List.map_nil, List.getD_cons_zero, List.getD_cons_succ, List.set_cons_zero, List.set_cons_succ, List.getElem?_cons_zero, List.getElem?_cons_succ, Bool.false_eq_true, Option.map_some, ↓reduceIte]
          refine callK_intro (up (n23 hU3 hU4 hs3.1)) ?_
          rw [hcm, show decide (insP p a (insP q b t) = insP p a (insP q b t)) = true from decide_eq_true rfl]
          simp (maxSteps := 2000000) (disch := first | omega | (simp only [List.length_append, List.length_cons, List.length_nil, List.length_map] <;> omega)) only [List.set_cons_zero, List.set_cons_succ, flg_bool, swp_ret, seqK_n, evK_some, appK_eq, appC_eq, srun_nil, srun_cons, fin_ret, sk_give, sk_pick, get_mk, raw_slot, raw_lit, put_some, wb_nil, ev_give, ev_pick, ro_bool, List.map_cons, List.map_nil, List.getD_cons_zero, List.getD_cons_succ, List.set_cons_zero, List.set_cons_succ, and_true, Bool.false_eq_true, ↓reduceIte]
          first | exact ⟨_, .same, rfl⟩ | exact ⟨_, .same⟩
    · rw [e21, e22, e23]
      have o2 := o1
      have hU2 : RowF st (.sl ((insP q b t).flatMap fC) (t.length + 1) .ro) (insP q b t) := ro_row e2l
      rw [List.append_nil]
      obtain ⟨hh2, hR2, hG2⟩ := put_two e21
      have hs2 := smT_ins hs hq hb hR2
      simp (maxSteps := 2000000) (disch := first | omega | (simp only [List.length_append, List.length_cons, List.length_nil, List.length_map] <;> omega)) only [List.set_cons_zero, List.set_cons_succ, pub_excl2, flg_int, flg_excl, exc_int, exc_str, exc_excl, swp_seq, swp_reg, swp_skip, swp_cond, seqK_n, condK_f, evK_some, appK_eq, appC_eq, grd_t, srun_nil, srun_cons, stepK_call, stepK_grd, sk_mv, sk_take, sk_give, sk_pick, sk_bin, sk_ext, get_mk, raw_slot, raw_lit, put_some, wb_nil, wb_cons, ev_mv, ev_take, ev_give, ev_pick, ev_ext, bin_neq, ro_int, ro_bool, ro_str, ro_excl, ro_tup, ro2_int, got_excl, got_int, got_str, pubs, pubsFrom, List.map_cons, List.map_nil, List.getD_cons_zero, List.getD_cons_succ, List.set_cons_zero, List.set_cons_succ, List.getElem?_cons_zero, List.getElem?_cons_succ, Bool.false_eq_true, Option.map_some, ↓reduceIte, bne_self_eq_false]
      have hor := hor (put_can e11).2 (put_can e21).2
      refine callK_intro (up (n12 hU1 hs1 hq hb o2)) ?_
      rcases put3 (insP p a t) q b (st.length + 2) [.cells [.str q], .cells [.str q, .str b], .cells ((insP q b (insP p a t)).flatMap fC)] with ⟨e3, n3, m3, e31, e32, e33⟩ | ⟨e31, e3l, e32, e33⟩ | ⟨e31, e3l, e32, e33⟩
      · rw [e31, e32, e33]
        simp (maxSteps := 2000000) (disch := first | omega | (simp only [List.length_append, List.length_cons, List.length_nil, List.length_map] <;> omega)) only [List.append_nil, List.set_cons_zero, List.set_cons_succ, pub_excl2, flg_int, flg_nilS, exc_str, exc_excl, swp_seq, swp_reg, seqK_n, evK_some, appK_eq, appC_eq, srun_nil, srun_cons, stepK_call, sk_mv, sk_give, sk_ext, get_mk, raw_slot, put_some, wb_nil, wb_cons, ev_mv, ev_give, ev_ext, ro_int, ro_str, ro_nilS, ro_excl, ro_tup, ro2_nilS, ro2_int, got_excl, got_str, pubs, pubsFrom, List.map_cons, List.map_nil, List.getD_cons_zero, List.getD_cons_succ, List.set_cons_zero, List.set_cons_succ, List.getElem?_cons_zero, List.getElem?_cons_succ, Bool.false_eq_true, Option.map_some, ↓reduceIte, List.append_nil]
        refine callK_intro (up (n12 hU2 hs2 hp ha o2)) ?_
        rcases put3 (insP q b t) p a (st.length + 2) [.cells [.str p], .cells [.str p, .str a], .cells ((insP p a (insP q b t)).flatMap fC)] with ⟨e4, n4, m4, e41, e42, e43⟩ | ⟨e41, e4l, e42, e43⟩ | ⟨e41, e4l, e42, e43⟩
        · rw [e41, e42, e43]
          simp (maxSteps := 2000000) (disch := first | omega | (simp only [List.length_append, List.length_cons, List.length_nil, List.length_map] <;> omega)) only [n3, n4, zb, List.append_nil, List.set_cons_zero, List.set_cons_succ, flg_int, flg_nilS, exc_int, exc_nilS, swp_seq, swp_reg, seqK_n, evK_some, appK_eq, appC_eq, grd_t, srun_nil, srun_cons, stepK_call, stepK_grd, sk_mv, sk_take, sk_give, sk_pick, sk_bin, sk_eqB, sk_ext, get_mk, raw_slot, raw_lit, put_some, wb_nil, wb_cons, ev_mv, ev_take, ev_give, ev_pick, ev_eqB, ev_ext, bin_eql, ro_int, ro_bool, ro_nilS, ro_tup, ro2_nilS, ro2_int, got_int, got_nilS, pubs, pubsFrom, List.map_cons, List.map_nil, List.getD_cons_zero, List.getD_cons_succ, List.set_cons_zero, List.set_cons_succ, List.getElem?_cons_zero, List.getElem?_cons_succ, Bool.false_eq_true, Option.map_some, ↓reduceIte, List.append_nil]
          refine callK_intro (up (n23 (nilF _) (nilF _) (by simp))) ?_
          simp (maxSteps := 2000000) (disch := first | omega | (simp only [List.length_append, List.length_cons, List.length_nil, List.length_map] <;> omega)) only [List.set_cons_zero, List.set_cons_succ, flg_bool, swp_ret, seqK_n, evK_some, appK_eq, appC_eq, srun_nil, srun_cons, fin_ret, sk_give, sk_pick, get_mk, raw_slot, raw_lit, put_some, wb_nil, ev_give, ev_pick, ro_bool, List.map_cons, List.map_nil, List.getD_cons_zero, List.getD_cons_succ, List.set_cons_zero, List.set_cons_succ, and_true, Bool.false_eq_true, ↓reduceIte, decide_true]
          first | exact ⟨_, .same, rfl⟩ | exact ⟨_, .same⟩
        · rw [e41, e42, e43]
          have o4 : okSt (st ++ [.cells [.str p], .cells [.str p, .str a], .cells ((insP p a (insP q b t)).flatMap fC)]) := okSt_appL o2 (by simp [obOk, idOks, idOk, idOks_fC])
          have hU4 : RowF (st ++ [.cells [.str p], .cells [.str p, .str a], .cells ((insP p a (insP q b t)).flatMap fC)]) (.slo (st.length + 2) 0 (insP q b t).length) (insP p a (insP q b t)) := slo_row (i := 2) rfl e4l
          generalize st ++ [.cells [.str p], .cells [.str p, .str a], .cells ((insP p a (insP q b t)).flatMap fC)] = s4 at o4 hU4  ⊢
          have c1 := (put_can e41).2
          have c2 : canPut (insP p a t) q b = 0 := hor.2 c1
          have c3 : putR (insP p a t) q b = (0, insP q b (insP p a t)) := by unfold putR; rw [if_pos hR1, if_pos c2]
          rw [c3] at e31; obtain rfl : (0 : Int) = e3 := congrArg Prod.fst e31; cases n3
        · rw [e41, e42, e43]
          have o4 := o2
          have hU4 : RowF st (.sl ((insP p a (insP q b t)).flatMap fC) ((insP q b t).length + 1) .ro) (insP p a (insP q b t)) := ro_row e4l
          rw [List.append_nil]
          have c1 := (put_can e41).2
          have c2 : canPut (insP p a t) q b = 0 := hor.2 c1
          have c3 : putR (insP p a t) q b = (0, insP q b (insP p a t)) := by unfold putR; rw [if_pos hR1, if_pos c2]
          rw [c3] at e31; obtain rfl : (0 : Int) = e3 := congrArg Prod.fst e31; cases n3
      · rw [e31, e32, e33]
        have o3 : okSt (st ++ [.cells [.str q], .cells [.str q, .str b], .cells ((insP q b (insP p a t)).flatMap fC)]) := okSt_appL o2 (by simp [obOk, idOks, idOk, idOks_fC])
        have hU3 : RowF (st ++ [.cells [.str q], .cells [.str q, .str b], .cells ((insP q b (insP p a t)).flatMap fC)]) (.slo (st.length + 2) 0 (insP p a t).length) (insP q b (insP p a t)) := slo_row (i := 2) rfl e3l
        replace hU2 : RowF (st ++ [.cells [.str q], .cells [.str q, .str b], .cells ((insP q b (insP p a t)).flatMap fC)]) (.sl ((insP q b t).flatMap fC) (t.length + 1) .ro) (insP q b t) := hU2.mono _
        generalize st ++ [.cells [.str q], .cells [.str q, .str b], .cells ((insP q b (insP p a t)).flatMap fC)] = s3 at o3 hU3 hU2 ⊢
        obtain ⟨hh3, hR3, hG3⟩ := put_two e31
        have hs3 := smT_ins hs1 hq hb hR3
        simp (maxSteps := 2000000) (disch := first | omega | (simp only [List.length_append, List.length_cons, List.length_nil, List.length_map] <;> omega)) only [List.set_cons_zero, List.set_cons_succ, pub_excl2, ro_slo, ro2_slo, flg_slo, flg_int, exc_str, exc_excl, swp_seq, swp_reg, seqK_n, evK_some, appK_eq, appC_eq, srun_nil, srun_cons, stepK_call, sk_mv, sk_give, sk_ext, get_mk, raw_slot, put_some, wb_nil, wb_cons, ev_mv, ev_give, ev_ext, ro_int, ro_str, ro_excl, ro_tup, ro2_int, got_excl, got_str, pubs, pubsFrom, List.map_cons, List.map_nil, List.getD_cons_zero, List.getD_cons_succ, List.set_cons_zero, List.set_cons_succ, List.getElem?_cons_zero, List.getElem?_cons_succ, Bool.false_eq_true, Option.map_some, ↓reduceIte]
        refine callK_intro (up (n12 hU2 hs2 hp ha o3)) ?_
        rcases put3 (insP q b t) p a (s3.length + 2) [.cells [.str p], .cells [.str p, .str a], .cells ((insP p a (insP q b t)).flatMap fC)] with ⟨e4, n4, m4, e41, e42, e43⟩ | ⟨e41, e4l, e42, e43⟩ | ⟨e41, e4l, e42, e43⟩
        · rw [e41, e42, e43]
          have c1 := (put_can e31).2
          have c2 : canPut (insP q b t) p a = 0 := hor.1 c1
          have c3 : putR (insP q b t) p a = (0, insP p a (insP q b t)) := by unfold putR; rw [if_pos hR2, if_pos c2]
          rw [c3] at e41; obtain rfl : (0 : Int) = e4 := congrArg Prod.fst e41; cases n4
        · rw [e41, e42, e43]
          have o4 : okSt (s3 ++ [.cells [.str p], .cells [.str p, .str a], .cells ((insP p a (insP q b t)).flatMap fC)]) := okSt_appL o3 (by simp [obOk, idOks, idOk, idOks_fC])
          have hU4 : RowF (s3 ++ [.cells [.str p], .cells [.str p, .str a], .cells ((insP p a (insP q b t)).flatMap fC)]) (.slo (s3.length + 2) 0 (insP q b t).length) (insP p a (insP q b t)) := slo_row (i := 2) rfl e4l
          replace hU3 : RowF (s3 ++ [.cells [.str p], .cells [.str p, .str a], .cells ((insP p a (insP q b t)).flatMap fC)]) (.slo (st.length + 2) 0 (insP p a t).length) (insP q b (insP p a t)) := hU3.mono _
          generalize s3 ++ [.cells [.str p], .cells [.str p, .str a], .cells ((insP p a (insP q b t)).flatMap fC)] = s4 at o4 hU4 hU3 ⊢
          simp (maxSteps := 2000000) (disch := first | omega | (simp only [List.length_append, List.length_cons, List.length_nil, List.length_map] <;> omega)) only [z0, zb, List.set_cons_zero, List.set_cons_succ, ro_slo, ro2_slo, got_slo, flg_slo, exc_slo, flg_int, exc_int, swp_seq, swp_reg, seqK_n, evK_some, appK_eq, appC_eq, grd_t, srun_nil, srun_cons, stepK_call, stepK_grd, sk_mv, sk_take, sk_give, sk_pick, sk_bin, sk_eqB, sk_ext, get_mk, raw_slot, raw_lit, put_some, wb_nil, wb_cons, ev_mv, ev_take, ev_give, ev_pick, ev_eqB, ev_ext, bin_eql, ro_int, ro_bool, ro_tup, ro2_int, got_int, pubs, pubsFrom, List.map_cons, List.map_nil, List.getD_cons_zero, List.getD_cons_succ, List.set_cons_zero, List.set_cons_succ, List.getElem?_cons_zero, List.getElem?_cons_succ, Bool.false_eq_true, Option.map_some, ↓reduceIte]
          refine callK_intro (up (n23 hU3 hU4 hs3.1)) ?_
          rw [hcm, show decide (insP p a (insP q b t) = insP p a (insP q b t)) = true from decide_eq_true rfl]
          simp (maxSteps := 2000000) (disch := first | omega | (simp only [List.length_append, List.length_cons, List.length_nil, List.length_map] <;> omega)) only [List.set_cons_zero, List.set_cons_succ, flg_bool, swp_ret, seqK_n, evK_some, appK_eq, appC_eq, srun_nil, srun_cons, fin_ret, sk_give, sk_pick, get_mk, raw_slot, raw_lit, put_some, wb_nil, ev_give, ev_pick, ro_bool, List.map_cons, List.map_nil, List.getD_cons_zero, List.getD_cons_succ, List.set_cons_zero, List.set_cons_succ, and_true, Bool.false_eq_true, ↓reduceIte]
          first | exact ⟨_, .same, rfl⟩ | exact ⟨_, .same⟩
        · rw [e41, e42, e43]
          have o4 := o3
          have hU4 : RowF s3 (.sl ((insP p a (insP q b t)).flatMap fC) ((insP q b t).length + 1) .ro) (insP p a (insP q b t)) := ro_row e4l
          rw [List.append_nil]
          simp (maxSteps := 2000000) (disch := first | omega | (simp only [List.length_append, List.length_cons, List.length_nil, List.length_map] <;> omega)) only [z0, zb, List.set_cons_zero, List.set_cons_succ, pub_excl2, got_slo, exc_slo, flg_int, flg_excl, exc_int, exc_ro, exc_excl, swp_seq, swp_reg, seqK_n, evK_some, appK_eq, appC_eq, grd_t, srun_nil, srun_cons, stepK_call, stepK_grd, sk_mv, sk_take, sk_give, sk_pick, sk_bin, sk_eqB, sk_ext, get_mk, raw_slot, raw_lit, put_some, wb_nil, wb_cons, ev_mv, ev_take, ev_give, ev_pick, ev_eqB, ev_ext, bin_eql, ro_int, ro_bool, ro_excl, ro_tup, ro2_int, got_excl, got_roo, got_int, pubs, pubsFrom, List.map_cons, List.map_nil, List.getD_cons_zero, List.getD_cons_succ, List.set_cons_zero, List.set_cons_succ, List.getElem?_cons_zero, List.getElem?_cons_succ, Bool.false_eq_true, Option.map_some, ↓reduceIte]
          refine callK_intro (up (n23 hU3 hU4 hs3.1)) ?_
          rw [hcm, show decide (insP p a (insP q b t) = insP p a (insP q b t)) = true from decide_eq_true rfl]
          simp (maxSteps := 2000000) (disch := first | omega | (simp only [List.length_append, List.length_cons, List.length_nil, List.length_map] <;> omega)) only [List.set_cons_zero, List.set_cons_succ, flg_bool, swp_ret, seqK_n, evK_some, appK_eq, appC_eq, srun_nil, srun_cons, fin_ret, sk_give, sk_pick, get_mk, raw_slot, raw_lit, put_some, wb_nil, ev_give, ev_pick, ro_bool, List.map_cons, List.map_nil, List.getD_cons_zero, List.getD_cons_succ, List.set_cons_zero, List.set_cons_succ, and_true, Bool.false_eq_true, ↓reduceIte]
          first | exact ⟨_, .same, rfl⟩ | exact ⟨_, .same⟩
      · rw [e31, e32, e33]
        have o3 := o2
        have hU3 : RowF st (.sl ((insP q b (insP p a t)).flatMap fC) ((insP p a t).length + 1) .ro) (insP q b (insP p a t)) := ro_row e3l
        rw [List.append_nil]
        obtain ⟨hh3, hR3, hG3⟩ := put_two e31
        have hs3 := smT_ins hs1 hq hb hR3
        simp (maxSteps := 2000000) (disch := first | omega | (simp only [List.length_append, List.length_cons, List.length_nil, List.length_map] <;> omega)) only [List.set_cons_zero, List.set_cons_succ, pub_excl2, flg_int, flg_excl, exc_str, exc_excl, swp_seq, swp_reg, seqK_n, evK_some, appK_eq, appC_eq, srun_nil, srun_cons, stepK_call, sk_mv, sk_give, sk_ext, get_mk, raw_slot, put_some, wb_nil, wb_cons, ev_mv, ev_give, ev_ext, ro_int, ro_str, ro_excl, ro_tup, ro2_int, got_excl, got_str, pubs, pubsFrom, List.map_cons, List.map_nil, List.getD_cons_zero, List.getD_cons_succ, List.set_cons_zero, List.set_cons_succ, List.getElem?_cons_zero, List.getElem?_cons_succ, Bool.false_eq_true, Option.map_some, ↓reduceIte]
        refine callK_intro (up (n12 hU2 hs2 hp ha o3)) ?_
        rcases put3 (insP q b t) p a (st.length + 2) [.cells [.str p], .cells [.str p, .str a], .cells ((insP p a (insP q b t)).flatMap fC)] with ⟨e4, n4, m4, e41, e42, e43⟩ | ⟨e41, e4l, e42, e43⟩ | ⟨e41, e4l, e42, e43⟩
        · rw [e41, e42, e43]
          have c1 := (put_can e31).2
          have c2 : canPut (insP q b t) p a = 0 := hor.1 c1
          have c3 : putR (insP q b t) p a = (0, insP p a (insP q b t)) := by unfold putR; rw [if_pos hR2, if_pos c2]
          rw [c3] at e41; obtain rfl : (0 : Int) = e4 := congrArg Prod.fst e41; cases n4
        · rw [e41, e42, e43]
          have o4 : okSt (st ++ [.cells [.str p], .cells [.str p, .str a], .cells ((insP p a (insP q b t)).flatMap fC)]) := okSt_appL o3 (by simp [obOk, idOks, idOk, idOks_fC])
          have hU4 : RowF (st ++ [.cells [.str p], .cells [.str p, .str a], .cells ((insP p a (insP q b t)).flatMap fC)]) (.slo (st.length + 2) 0 (insP q b t).length) (insP p a (insP q b t)) := slo_row (i := 2) rfl e4l
          replace hU3 : RowF (st ++ [.cells [.str p], .cells [.str p, .str a], .cells ((insP p a (insP q b t)).flatMap fC)]) (.sl ((insP q b (insP p a t)).flatMap fC) ((insP p a t).length + 1) .ro) (insP q b (insP p a t)) := hU3.mono _
          generalize st ++ [.cells [.str p], .cells [.str p, .str a], .cells ((insP p a (insP q b t)).flatMap fC)] = s4 at o4 hU4 hU3 ⊢
          simp (maxSteps := 2000000) (disch := first | omega | (simp only [List.length_append, List.length_cons, List.length_nil, List.length_map] <;> omega)) only [z0, zb, List.set_cons_zero, List.set_cons_succ, pub_excl2, ro_slo, ro2_slo, got_slo, flg_slo, exc_slo, flg_int, exc_int, exc_ro, exc_excl, swp_seq, swp_reg, seqK_n, evK_some, appK_eq, appC_eq, grd_t, srun_nil, srun_cons, stepK_call, stepK_grd, sk_mv, sk_take, sk_give, sk_pick, sk_bin, sk_eqB, sk_ext, get_mk, raw_slot, raw_lit, put_some, wb_nil, wb_cons, ev_mv, ev_take, ev_give, ev_pick, ev_eqB, ev_ext, bin_eql, ro_int, ro_bool, ro_tup, ro2_int, got_excl, got_roo, got_int, pubs, pubsFrom, List.map_cons, List.map_nil, List.getD_cons_zero, List.getD_cons_succ, List.set_cons_zero, List.set_cons_succ, List.getElem?_cons_zero, List.getElem?_cons_succ, Bool.false_eq_true, Option.map_some, ↓reduceIte]
          refine callK_intro (up (n23 hU3 hU4 hs3.1)) ?_
          rw [hcm, show decide (insP p a (insP q b t) = insP p a (insP q b t)) = true from decide_eq_true rfl]
          simp (maxSteps := 2000000) (disch := first | omega | (simp only [List.length_append, List.length_cons, List.length_nil, List.length_map] <;> omega)) only [List.set_cons_zero, List.set_cons_succ, flg_bool, swp_ret, seqK_n, evK_some, appK_eq, appC_eq, srun_nil, srun_cons, fin_ret, sk_give, sk_pick, get_mk, raw_slot, raw_lit, put_some, wb_nil, ev_give, ev_pick, ro_bool, List.map_cons, List.map_nil, List.getD_cons_zero, List.getD_cons_succ, List.set_cons_zero, List.set_cons_succ, and_true, Bool.false_eq_true, ↓reduceIte]
          first | exact ⟨_, .same, rfl⟩ | exact ⟨_, .same⟩
        · rw [e41, e42, e43]
          have o4 := o3
          have hU4 : RowF st (.sl ((insP p a (insP q b t)).flatMap fC) ((insP q b t).length + 1) .ro) (insP p a (insP q b t)) := ro_row e4l
          rw [List.append_nil]
          simp (maxSteps := 2000000) (disch := first | omega | (simp only [List.length_append, List.length_cons, List.length_nil, List.length_map] <;> omega)) only [z0, zb, List.set_cons_zero, List.set_cons_succ, pub_excl2, flg_int, flg_excl, exc_int, exc_ro, exc_excl, swp_seq, swp_reg, seqK_n, evK_some, appK_eq, appC_eq, grd_t, srun_nil, srun_cons, stepK_call, stepK_grd, sk_mv, sk_take, sk_give, sk_pick, sk_bin, sk_eqB, sk_ext, get_mk, raw_slot, raw_lit, put_some, wb_nil, wb_cons, ev_mv, ev_take, ev_give, ev_pick, ev_eqB, ev_ext, bin_eql, ro_int, ro_bool, ro_excl, ro_tup, ro2_int, got_excl, got_roo, got_int, pubs, pubsFrom, List.map_cons, List.map_nil, List.getD_cons_zero, List.getD_cons_succ, List.set_cons_zero, List.set_cons_succ, List.getElem?_cons_zero, List.getElem?_cons_succ, Bool.false_eq_true, Option.map_some, ↓reduceIte]
          refine callK_intro (up (n23 hU3 hU4 hs3.1)) ?_
          rw [hcm, show decide (insP p a (insP q b t) = insP p a (insP q b t)) = true from decide_eq_true rfl]
          simp (maxSteps := 2000000) (disch := first | omega | (simp only [List.length_append, List.length_cons, List.length_nil, List.length_map] <;> omega)) only [List.set_cons_zero, List.set_cons_succ, flg_bool, swp_ret, seqK_n, evK_some, appK_eq, appC_eq, srun_nil, srun_cons, fin_ret, sk_give, sk_pick, get_mk, raw_slot, raw_lit, put_some, wb_nil, ev_give, ev_pick, ro_bool, List.map_cons, List.map_nil, List.getD_cons_zero, List.getD_cons_succ, List.set_cons_zero, List.set_cons_succ, and_true, Bool.false_eq_true, ↓reduceIte]
          first | exact ⟨_, .same, rfl⟩ | exact ⟨_, .same⟩
end Go.Sh.F
