/-
  Trees: the law TreeKeeps, walked.
-/
import Derived.Test.YtihhaeklacphbaaDoorTyM
set_option linter.unusedSimpArgs false
set_option linter.unusedVariables false
namespace Go.Sh.F
open Go.PathLaw Go.TreeLaw Go.Proofs
set_option maxHeartbeats 40000000 in
set_option maxRecDepth 100000 in
theorem l4 (v : SV) (t : List F) (p d o : List UInt8) (st : List Ob) (hv' : rdR fC v t) (hs : smT t) (hp : sm p) (hd : sm d) (hoo : sm o) (ho : okSt st) : swpF O330 sf4 [v, .str p, .str d, .str o] st (fun r _ => r = .bool true) := by
  have hv := rd_F hv' st
  obtain ⟨q1, q2, q3, q4, q6, q7⟩ := RowAt.facts hv
  have q5 := RowAt.lenL hv
  simp (maxSteps := 2000000) (disch := first | omega | (simp only [List.length_append, List.length_cons, List.length_nil, List.length_map] <;> omega)) only [sf4, List.set_cons_zero, List.set_cons_succ, flg_bool, swp_seq, swp_reg, seqK_n, evK_some, appK_eq, srun_nil, srun_cons, stepK_call, swpF_eq, sk_give, raw_lit, put_some, wb_nil, ev_give, ro_bool, pubs, pubsFrom, List.map_cons, List.map_nil, List.set_cons_zero, List.set_cons_succ, List.length_cons, List.length_nil, List.replicate_succ, List.replicate_zero, List.cons_append, List.nil_append, Nat.reduceAdd, Nat.reduceSub, Bool.false_eq_true, ↓reduceIte, Nat.zero_add]
  refine callK_intro (nS ho) ?_
  simp (maxSteps := 2000000) (disch := first | omega | (simp only [List.length_append, List.length_cons, List.length_nil, List.length_map] <;> omega)) only [q1, q2, q3, List.set_cons_zero, List.set_cons_succ, flg_bool, swp_seq, swp_reg, seqK_n, evK_some, appK_eq, appC_eq, srun_nil, srun_cons, stepK_call, sk_mv, sk_give, get_mk, raw_slot, put_some, wb_nil, ev_mv, ev_give, ro_bool, pubs, pubsFrom, List.map_cons, List.map_nil, List.getD_cons_zero, List.getD_cons_succ, List.set_cons_zero, List.set_cons_succ, Bool.false_eq_true, ↓reduceIte]
  refine callK_intro (up (n11 hv hs.1)) ?_
  cases hF : fewT t with
  | false =>
    simp (maxSteps := 2000000) (disch := first | omega | (simp only [List.length_append, List.length_cons, List.length_nil, List.length_map] <;> omega)) only [Bool.not_false, List.set_cons_zero, List.set_cons_succ, flg_bool, swp_seq, swp_reg, swp_ret, swp_cond, seqK_n, seqK_r, condK_t, evK_some, appK_eq, appC_eq, grd_t, srun_nil, srun_cons, stepK_grd, fin_ret, sk_mv, sk_give, sk_pick, sk_un, get_mk, raw_slot, raw_lit, put_some, wb_nil, ev_mv, ev_give, ev_pick, ev_not, ro_bool, List.map_cons, List.map_nil, List.getD_cons_zero, List.getD_cons_succ, List.set_cons_zero, List.set_cons_succ, and_true, Bool.false_eq_true, ↓reduceIte, reduceCtorEq, Bool.not_false]
    first | exact ⟨_, .same, rfl⟩ | exact ⟨_, .same⟩
  | true =>
  simp (maxSteps := 2000000) (disch := first | omega | (simp only [List.length_append, List.length_cons, List.length_nil, List.length_map] <;> omega)) only [Bool.not_true, q2, q3, List.set_cons_zero, List.set_cons_succ, flg_bool, swp_seq, swp_reg, seqK_n, evK_some, appK_eq, appC_eq, grd_t, srun_nil, srun_cons, stepK_call, stepK_grd, sk_mv, sk_take, sk_give, sk_un, get_mk, raw_slot, put_some, wb_nil, ev_mv, ev_take, ev_give, ev_not, ro_bool, pubs, pubsFrom, List.map_cons, List.map_nil, List.getD_cons_zero, List.getD_cons_succ, List.set_cons_zero, List.set_cons_succ, Bool.false_eq_true, ↓reduceIte, Bool.not_true]
  refine callK_intro (up (n19 hv hs ho)) ?_
  cases hR : rightT t with
  | false =>
    simp (maxSteps := 2000000) (disch := first | omega | (simp only [List.length_append, List.length_cons, List.length_nil, List.length_map] <;> omega)) only [Bool.not_false, List.set_cons_zero, List.set_cons_succ, flg_bool, swp_seq, swp_reg, swp_ret, swp_cond, seqK_n, seqK_r, condK_t, evK_some, appK_eq, appC_eq, grd_t, srun_nil, srun_cons, stepK_grd, fin_ret, sk_mv, sk_give, sk_pick, sk_un, get_mk, raw_slot, raw_lit, put_some, wb_nil, ev_mv, ev_give, ev_pick, ev_not, ro_bool, List.map_cons, List.map_nil, List.getD_cons_zero, List.getD_cons_succ, List.set_cons_zero, List.set_cons_succ, and_true, Bool.false_eq_true, ↓reduceIte, reduceCtorEq, Bool.not_false]
    first | exact ⟨_, .same, rfl⟩ | exact ⟨_, .same⟩
  | true =>
  rcases bf (decide ((100 : Int) < (p.length : Int))) with h1 | h1
  rotate_left
  · simp (maxSteps := 2000000) (disch := first | omega | (simp only [List.length_append, List.length_cons, List.length_nil, List.length_map] <;> omega)) only [h1, Bool.not_true, List.set_cons_zero, List.set_cons_succ, flg_bool, exc_str, swp_seq, swp_reg, swp_ret, swp_cond, seqK_n, seqK_r, condK_t, evK_some, appK_eq, appC_eq, grd_t, srun_nil, srun_cons, stepK_grd, fin_ret, sk_mv, sk_take, sk_give, sk_pick, sk_bin, sk_un, sk_lenS, get_mk, raw_slot, raw_lit, put_some, wb_nil, ev_mv, ev_take, ev_give, ev_pick, ev_not, ev_lenS, bin_gtr, ro_bool, got_str, List.map_cons, List.map_nil, List.getD_cons_zero, List.getD_cons_succ, List.set_cons_zero, List.set_cons_succ, and_true, Bool.false_eq_true, ↓reduceIte, reduceCtorEq, Bool.not_true, gt_iff_lt]
    first | exact ⟨_, .same, rfl⟩ | exact ⟨_, .same⟩
  rcases bf (decide ((1000 : Int) < (d.length : Int))) with h2 | h2
  rotate_left
  · simp (maxSteps := 2000000) (disch := first | omega | (simp only [List.length_append, List.length_cons, List.length_nil, List.length_map] <;> omega)) only [h1, h2, Bool.not_true, List.set_cons_zero, List.set_cons_succ, flg_bool, exc_str, swp_seq, swp_reg, swp_ret, swp_cond, seqK_n, seqK_r, condK_t, evK_some, appK_eq, appC_eq, grd_t, srun_nil, srun_cons, stepK_grd, fin_ret, sk_mv, sk_take, sk_give, sk_pick, sk_bin, sk_un, sk_lenS, get_mk, raw_slot, raw_lit, put_some, wb_nil, ev_mv, ev_take, ev_give, ev_pick, ev_not, ev_lenS, bin_gtr, ro_bool, got_str, List.map_cons, List.map_nil, List.getD_cons_zero, List.getD_cons_succ, List.set_cons_zero, List.set_cons_succ, and_true, Bool.false_eq_true, ↓reduceIte, reduceCtorEq, Bool.not_true, gt_iff_lt]
    first | exact ⟨_, .same, rfl⟩ | exact ⟨_, .same⟩
  rcases bf (decide ((100 : Int) < (o.length : Int))) with h3 | h3
  rotate_left
  · simp (maxSteps := 2000000) (disch := first | omega | (simp only [List.length_append, List.length_cons, List.length_nil, List.length_map] <;> omega)) only [h1, h2, h3, Bool.not_true, List.set_cons_zero, List.set_cons_succ, flg_bool, exc_str, swp_seq, swp_reg, swp_ret, swp_cond, seqK_n, seqK_r, condK_t, evK_some, appK_eq, appC_eq, grd_t, srun_nil, srun_cons, stepK_grd, fin_ret, sk_mv, sk_take, sk_give, sk_pick, sk_bin, sk_un, sk_lenS, get_mk, raw_slot, raw_lit, put_some, wb_nil, ev_mv, ev_take, ev_give, ev_pick, ev_not, ev_lenS, bin_gtr, ro_bool, got_str, List.map_cons, List.map_nil, List.getD_cons_zero, List.getD_cons_succ, List.set_cons_zero, List.set_cons_succ, and_true, Bool.false_eq_true, ↓reduceIte, Bool.not_true, gt_iff_lt]
    first | exact ⟨_, .same, rfl⟩ | exact ⟨_, .same⟩
  simp (maxSteps := 2000000) (disch := first | omega | (simp only [List.length_append, List.length_cons, List.length_nil, List.length_map] <;> omega)) only [h1, h2, h3, Bool.not_true, q1, q2, q3, List.set_cons_zero, List.set_cons_succ, exc_str, swp_seq, swp_reg, swp_skip, swp_cond, seqK_n, condK_f, evK_some, appK_eq, appC_eq, grd_t, srun_nil, srun_cons, stepK_call, stepK_grd, sk_mv, sk_take, sk_pick, sk_bin, sk_un, sk_lenS, get_mk, raw_slot, raw_lit, put_some, wb_nil, ev_mv, ev_take, ev_pick, ev_not, ev_lenS, bin_gtr, ro_bool, ro_str, got_str, pubs, pubsFrom, List.map_cons, List.map_nil, List.getD_cons_zero, List.getD_cons_succ, List.set_cons_zero, List.set_cons_succ, Bool.false_eq_true, ↓reduceIte, Bool.not_true, gt_iff_lt]
  refine callK_intro (up (n12 hv hs hp hd ho)) ?_
  have z0 : ((0 : Int) == 0) = true := rfl
  have z6 : ((6 : Int) == 0) = false := rfl
  have z2 : ((2 : Int) == 0) = false := rfl
  have zc : (((0 : Nat) : Int) == 0) = true := rfl
  rcases put_cases t p d (st.length + 2) [.cells [.str p], .cells [.str p, .str d], .cells ((insP p d t).flatMap fC)] with ⟨a, _⟩ | ⟨_, _, e1, e2, e3⟩ | ⟨_, _, _, _, e1, e2, e3⟩ | ⟨_, _, _, _, hh, e1, ⟨hl, ek, ei⟩, e2, e3⟩ | ⟨_, _, _, _, hh, _, e1, ei, e2, e3⟩
  · rw [hR] at a; cases a
  · rw [e1, e2, e3]
    simp (maxSteps := 2000000) (disch := first | omega | (simp only [List.length_append, List.length_cons, List.length_nil, List.length_map] <;> omega)) only [z0, z6, Bool.not_false, List.append_nil, nbI, List.set_cons_zero, List.set_cons_succ, flg_bool, flg_int, flg_nilS, exc_nilS, swp_seq, swp_reg, swp_ret, swp_cond, seqK_n, seqK_r, condK_t, evK_some, appK_eq, appC_eq, grd_t, srun_nil, srun_cons, stepK_grd, fin_ret, sk_mv, sk_take, sk_give, sk_pick, sk_bin, sk_lenL, sk_ext, get_mk, raw_slot, raw_lit, put_some, wb_nil, ev_mv, ev_take, ev_give, ev_pick, ev_lenN, ev_ext, bin_eql, bin_neq, ro_int, ro_bool, ro_nilS, ro_tup, ro2_nilS, ro2_int, got_nilS, List.map_cons, List.map_nil, List.getD_cons_zero, List.getD_cons_succ, List.set_cons_zero, List.set_cons_succ, List.getElem?_cons_zero, List.getElem?_cons_succ, and_true, Bool.false_eq_true, Option.map_some, ↓reduceIte, List.append_nil, Bool.not_false]
    first | exact ⟨_, .same, rfl⟩ | exact ⟨_, .same⟩
  · rw [e1, e2, e3]
    simp (maxSteps := 2000000) (disch := first | omega | (simp only [List.length_append, List.length_cons, List.length_nil, List.length_map] <;> omega)) only [z0, z2, Bool.not_false, List.append_nil, nbI, List.set_cons_zero, List.set_cons_succ, flg_bool, flg_int, flg_nilS, exc_nilS, swp_seq, swp_reg, swp_ret, swp_cond, seqK_n, seqK_r, condK_t, evK_some, appK_eq, appC_eq, grd_t, srun_nil, srun_cons, stepK_grd, fin_ret, sk_mv, sk_take, sk_give, sk_pick, sk_bin, sk_lenL, sk_ext, get_mk, raw_slot, raw_lit, put_some, wb_nil, ev_mv, ev_take, ev_give, ev_pick, ev_lenN, ev_ext, bin_eql, bin_neq, ro_int, ro_bool, ro_nilS, ro_tup, ro2_nilS, ro2_int, got_nilS, List.map_cons, List.map_nil, List.getD_cons_zero, List.getD_cons_succ, List.set_cons_zero, List.set_cons_succ, List.getElem?_cons_zero, List.getElem?_cons_succ, and_true, Bool.false_eq_true, Option.map_some, ↓reduceIte, List.append_nil, Bool.not_false]
    first | exact ⟨_, .same, rfl⟩ | exact ⟨_, .same⟩
  · have hUl : (insP p d t).length = t.length := by rw [ei, List.length_set]
    have hst : okSt (st ++ [.cells [.str p], .cells [.str p, .str d], .cells ((insP p d t).flatMap fC)]) := okSt_appL ho (by simp [obOk, idOks, idOk, idOks_fC])
    have hU : RowF (st ++ [.cells [.str p], .cells [.str p, .str d], .cells ((insP p d t).flatMap fC)]) (.slo (st.length + 2) 0 t.length) (insP p d t) := slo_row (i := 2) rfl hUl
    have hvS : RowF (st ++ [.cells [.str p], .cells [.str p, .str d], .cells ((insP p d t).flatMap fC)]) v t := hv.mono _
    obtain ⟨hhU, hRU, hGU⟩ := put_two e1
    have hsrt := right_srt hR
    have hsU := smT_ins hs hp hd hRU
    have hdel : delP p (insP p d t) = delP p t := del_ins hsrt
    have hsD := smT_del (p := p) hs
    have hRD := right_del (p := p) hR
    have w1 : (d == d) = true := beq_self_eq_true d
    have w2 : decide ((0 : Int) ≤ -1) = false := rfl
    have w3 : ∀ b : Bool, (b == b) = true := fun b => by cases b <;> rfl
    have w4 : ∀ x : List UInt8, (x == x) = true := fun x => beq_self_eq_true x
    have w5 := w4
    rw [e1, e2, e3]
    simp (maxSteps := 2000000) (disch := first | omega | (simp only [List.length_append, List.length_cons, List.length_nil, List.length_map] <;> omega)) only [List.set_cons_zero, List.set_cons_succ, ro_slo, ro2_slo, got_slo, flg_slo, exc_slo, flg_int, exc_str, swp_seq, swp_reg, swp_skip, swp_cond, seqK_n, condK_f, evK_some, appK_eq, appC_eq, srun_nil, srun_cons, stepK_call, sk_mv, sk_give, sk_bin, sk_ext, get_mk, raw_slot, raw_lit, put_some, wb_nil, ev_mv, ev_give, ev_ext, bin_neq, ro_int, ro_str, ro_tup, ro2_int, got_str, pubs, pubsFrom, List.map_cons, List.map_nil, List.getD_cons_zero, List.getD_cons_succ, List.set_cons_zero, List.set_cons_succ, List.getElem?_cons_zero, List.getElem?_cons_succ, Bool.false_eq_true, Option.map_some, ↓reduceIte, bne_self_eq_false]
    refine callK_intro (up (n16 hU hsU hst)) ?_
    rw [hGU]
    simp (maxSteps := 2000000) (disch := first | omega | (simp only [List.length_append, List.length_cons, List.length_nil, List.length_map] <;> omega)) only [getV, Option.getD_some, Option.isSome_some, w1, Bool.not_true, List.set_cons_zero, List.set_cons_succ, got_slo, exc_slo, flg_bool, flg_str, exc_bool, swp_seq, swp_reg, seqK_n, evK_some, appK_eq, appC_eq, grd_t, srun_nil, srun_cons, stepK_call, stepK_grd, sk_mv, sk_take, sk_give, sk_pick, sk_bin, sk_un, sk_ext, get_mk, raw_slot, raw_lit, put_some, wb_nil, ev_mv, ev_take, ev_give, ev_pick, ev_not, ev_ext, bin_neqS, ro_bool, ro_str, ro_tup, ro2_str, ro2_bool, got_bool, pubs, pubsFrom, List.map_cons, List.map_nil, List.getD_cons_zero, List.getD_cons_succ, List.set_cons_zero, List.set_cons_succ, List.getElem?_cons_zero, List.getElem?_cons_succ, Bool.false_eq_true, Option.map_some, ↓reduceIte, Bool.not_true]
    refine callK_intro (up (n19 hU hsU hst)) ?_
    rw [hRU]
    simp (maxSteps := 2000000) (disch := first | omega | (simp only [List.length_append, List.length_cons, List.length_nil, List.length_map] <;> omega)) only [Bool.not_true, q1, q2, q3, List.set_cons_zero, List.set_cons_succ, exc_str, swp_seq, swp_reg, swp_skip, swp_cond, seqK_n, condK_f, evK_some, appK_eq, appC_eq, grd_t, srun_nil, srun_cons, stepK_call, stepK_grd, sk_mv, sk_pick, sk_un, get_mk, raw_slot, raw_lit, put_some, wb_nil, ev_mv, ev_pick, ev_not, ro_bool, ro_str, got_str, pubs, pubsFrom, List.map_cons, List.map_nil, List.getD_cons_zero, List.getD_cons_succ, List.set_cons_zero, List.set_cons_succ, Bool.false_eq_true, ↓reduceIte, Bool.not_true]
    refine callK_intro (up (n16 hvS hs hst)) ?_
    simp (maxSteps := 2000000) (disch := first | omega | (simp only [List.length_append, List.length_cons, List.length_nil, List.length_map] <;> omega)) only [getV, List.set_cons_zero, List.set_cons_succ, ro_slo, got_slo, exc_slo, flg_bool, flg_str, exc_str, swp_seq, swp_reg, seqK_n, evK_some, appK_eq, appC_eq, srun_nil, srun_cons, stepK_call, sk_mv, sk_give, sk_ext, get_mk, raw_slot, put_some, wb_nil, ev_mv, ev_give, ev_ext, ro_bool, ro_str, ro_tup, ro2_str, ro2_bool, got_str, pubs, pubsFrom, List.map_cons, List.map_nil, List.getD_cons_zero, List.getD_cons_succ, List.set_cons_zero, List.set_cons_succ, List.getElem?_cons_zero, List.getElem?_cons_succ, Bool.false_eq_true, Option.map_some, ↓reduceIte]
    refine callK_intro (up (n16 hU hsU hst)) ?_
    have w6 : ∀ b : Bool, (b != b) = false := fun b => by cases b <;> rfl
    have hGo : getP o (insP p d t) = if o = p then some d else getP o t := get_ins _ _ _ _ hsrt
    rw [getR_right hR, getR_right hRU, hGo]
    by_cases hop : o = p
    · have w7 : (o == p) = true := by rw [beq_iff_eq]; exact hop
      simp (maxSteps := 2000000) (disch := first | omega | (simp only [List.length_append, List.length_cons, List.length_nil, List.length_map] <;> omega)) only [getV, w7, Bool.not_true, List.set_cons_zero, List.set_cons_succ, ro_slo, got_slo, exc_slo, flg_bool, flg_str, exc_str, grd_s, swp_seq, swp_reg, swp_skip, swp_cond, seqK_n, condK_f, evK_some, appK_eq, appC_eq, grd_t, srun_nil, srun_cons, stepK_call, stepK_grd, sk_mv, sk_give, sk_pick, sk_bin, sk_ext, get_mk, raw_slot, raw_lit, put_some, wb_nil, ev_mv, ev_give, ev_pick, ev_ext, bin_neqS, ro_bool, ro_str, ro_tup, ro2_str, ro2_bool, got_str, pubs, pubsFrom, List.map_cons, List.map_nil, List.getD_cons_zero, List.getD_cons_succ, List.set_cons_zero, List.set_cons_succ, List.getElem?_cons_zero, List.getElem?_cons_succ, Bool.false_eq_true, Option.map_some, ↓reduceIte, Bool.not_true]
      refine callK_intro (up (n14 hU hsU hst)) ?_
      obtain ⟨hlU, eU, eV⟩ : ∃ h : lowP p (insP p d t) < (insP p d t).length, delP p (insP p d t) = (insP p d t).take (lowP p (insP p d t)) ++ (insP p d t).drop (lowP p (insP p d t) + 1) ∧ dropV (insP p d t) p = .tup [.sl ((delP p (insP p d t)).flatMap fC) ((insP p d t).length - 1) (.excl 2), .int .i64 0] := by
        rcases drop_cases (insP p d t) p with ⟨a, _⟩ | ⟨_, a, _⟩ | ⟨_, _, _, h, a, b⟩
        · rw [hRU] at a; cases a
        · rw [hhU] at a; cases a
        · exact ⟨h, a, by rw [b, a]⟩
      have eL : (delP p t).length = (insP p d t).length - 1 := by
        rw [← hdel, eU, List.length_append, List.length_take, List.length_drop]; omega
      rw [eV, hdel]
      simp (maxSteps := 2000000) (disch := first | omega | (simp only [List.length_append, List.length_cons, List.length_nil, List.length_map] <;> omega)) only [q1, q2, q3, List.set_cons_zero, List.set_cons_succ, flg_int, flg_excl, exc_str, swp_seq, swp_reg, seqK_n, evK_some, appK_eq, appC_eq, srun_nil, srun_cons, stepK_call, sk_mv, sk_give, sk_ext, get_mk, raw_slot, put_some, wb_nil, wb_cons, ev_mv, ev_give, ev_ext, ro_int, ro_str, ro_excl, ro_tup, ro2_int, got_str, pubs, pubsFrom, List.map_cons, List.map_nil, List.getD_cons_zero, List.getD_cons_succ, List.set_cons_zero, List.set_cons_succ, List.getElem?_cons_zero, List.getElem?_cons_succ, Bool.false_eq_true, Option.map_some, ↓reduceIte]
      refine callK_intro (up (n16 hvS hs hst)) ?_
      rw [getR_right hR]
      simp (maxSteps := 2000000) (disch := first | omega | (simp only [List.length_append, List.length_cons, List.length_nil, List.length_map] <;> omega)) only [getV, List.set_cons_zero, List.set_cons_succ, pub_excl2, flg_bool, flg_str, exc_ro, exc_excl, swp_seq, swp_reg, seqK_n, evK_some, appK_eq, appC_eq, grd_t, srun_nil, srun_cons, stepK_call, stepK_grd, sk_mv, sk_take, sk_give, sk_bin, sk_ext, get_mk, raw_slot, raw_lit, put_some, wb_nil, wb_cons, ev_mv, ev_take, ev_give, ev_ext, bin_neq, ro_int, ro_bool, ro_str, ro_tup, ro2_str, ro2_bool, got_excl, got_roo, pubs, pubsFrom, List.map_cons, List.map_nil, List.getD_cons_zero, List.getD_cons_succ, List.set_cons_zero, List.set_cons_succ, List.getElem?_cons_zero, List.getElem?_cons_succ, Bool.false_eq_true, Option.map_some, ↓reduceIte, bne_self_eq_false]
      have hD := ro_row (st := (st ++ [.cells [.str p], .cells [.str p, .str d], .cells ((insP p d t).flatMap fC)])) eL
      refine callK_intro (up (n19 hD hsD hst)) ?_
      rw [hRD]
      simp (maxSteps := 2000000) (disch := first | omega | (simp only [List.length_append, List.length_cons, List.length_nil, List.length_map] <;> omega)) only [Bool.not_true, List.set_cons_zero, List.set_cons_succ, exc_str, exc_ro, exc_own, evK_some, appK_eq, appC_eq, grd_t, srun_cons, stepK_call, stepK_grd, sk_mv, sk_take, sk_pick, sk_un, get_mk, raw_slot, raw_lit, put_some, wb_nil, ev_mv, ev_take, ev_pick, ev_not, ro_bool, got_own, got_roo, got_str, pubs, pubsFrom, List.map_cons, List.map_nil, List.getD_cons_zero, List.getD_cons_succ, List.set_cons_zero, List.set_cons_succ, Bool.false_eq_true, ↓reduceIte, Bool.not_true]
      refine callK_intro (up (n21 hD hsD hst)) ?_
      rw [find_del]
      cases hw : (getP p t).isSome with
      | true =>
        simp (maxSteps := 2000000) (disch := first | omega | (simp only [List.length_append, List.length_cons, List.length_nil, List.length_map] <;> omega)) only [ge_iff_le, List.set_cons_zero, List.set_cons_succ, flg_bool, exc_bool, swp_seq, swp_reg, swp_skip, swp_ret, swp_cond, seqK_n, condK_f, evK_some, appK_eq, appC_eq, grd_t, srun_nil, srun_cons, stepK_grd, fin_ret, sk_mv, sk_take, sk_give, sk_pick, sk_bin, get_mk, raw_slot, raw_lit, put_some, wb_nil, ev_mv, ev_take, ev_give, ev_pick, bin_geq, ro_bool, got_bool, List.map_cons, List.map_nil, List.getD_cons_zero, List.getD_cons_succ, List.set_cons_zero, List.set_cons_succ, and_true, Bool.false_eq_true, ↓reduceIte, decide_false, reduceCtorEq, ge_iff_le, Int.reduceLE, Int.reduceNeg]
        first | exact ⟨_, .same, rfl⟩ | exact ⟨_, .same⟩
      | false =>
        have hn : has t p = false := by rw [has_get]; exact hw
        simp (maxSteps := 2000000) (disch := first | omega | (simp only [List.length_append, List.length_cons, List.length_nil, List.length_map] <;> omega)) only [ge_iff_le, q2, q3, List.set_cons_zero, List.set_cons_succ, exc_bool, exc_ro, exc_own, swp_seq, swp_reg, swp_skip, swp_cond, seqK_n, condK_f, evK_some, appK_eq, appC_eq, grd_t, srun_nil, srun_cons, stepK_call, stepK_grd, sk_mv, sk_take, sk_pick, sk_bin, get_mk, raw_slot, raw_lit, put_some, wb_nil, ev_mv, ev_take, ev_pick, bin_geq, ro_bool, got_own, got_roo, got_bool, pubs, pubsFrom, List.map_cons, List.map_nil, List.getD_cons_zero, List.getD_cons_succ, List.set_cons_zero, List.set_cons_succ, Bool.false_eq_true, ↓reduceIte, decide_false, ge_iff_le, Int.reduceLE, Int.reduceNeg]
        refine callK_intro (up (n23 hD hvS hsD.1)) ?_
        rw [del_none hn, show decide (t = t) = true from decide_eq_true rfl]
        simp (maxSteps := 2000000) (disch := first | omega | (simp only [List.length_append, List.length_cons, List.length_nil, List.length_map] <;> omega)) only [List.set_cons_zero, List.set_cons_succ, flg_bool, swp_ret, seqK_n, evK_some, appK_eq, appC_eq, grd_t, srun_nil, srun_cons, stepK_grd, fin_ret, sk_give, sk_pick, get_mk, raw_slot, raw_lit, put_some, wb_nil, ev_give, ev_pick, ro_bool, List.map_cons, List.map_nil, List.getD_cons_zero, List.getD_cons_succ, List.set_cons_zero, List.set_cons_succ, and_true, Bool.false_eq_true, ↓reduceIte, Int.reduceNeg]
        first | exact ⟨_, .same, rfl⟩ | exact ⟨_, .same⟩
    · have w7 : (o == p) = false := by rw [beq_eq_false_iff_ne]; exact hop
      rw [if_neg hop]
      simp (maxSteps := 2000000) (disch := first | omega | (simp only [List.length_append, List.length_cons, List.length_nil, List.length_map] <;> omega)) only [getV, w3, w4, w7, Bool.not_false, Bool.not_true, List.set_cons_zero, List.set_cons_succ, ro_slo, got_slo, exc_slo, flg_bool, flg_str, exc_bool, exc_str, swp_seq, swp_reg, swp_skip, swp_cond, seqK_n, condK_f, evK_some, appK_eq, appC_eq, grd_t, srun_nil, srun_cons, stepK_call, stepK_grd, sk_mv, sk_take, sk_give, sk_pick, sk_bin, sk_eqB, sk_ext, get_mk, raw_slot, raw_lit, put_some, wb_nil, ev_mv, ev_take, ev_give, ev_pick, ev_eqB, ev_ext, bin_neqS, ro_bool, ro_str, ro_tup, ro2_str, ro2_bool, got_bool, got_str, pubs, pubsFrom, List.map_cons, List.map_nil, List.getD_cons_zero, List.getD_cons_succ, List.set_cons_zero, List.set_cons_succ, List.getElem?_cons_zero, List.getElem?_cons_succ, Bool.false_eq_true, Option.map_some, ↓reduceIte, Bool.not_true, Bool.not_false]
      refine callK_intro (up (n14 hU hsU hst)) ?_
      obtain ⟨hlU, eU, eV⟩ : ∃ h : lowP p (insP p d t) < (insP p d t).length, delP p (insP p d t) = (insP p d t).take (lowP p (insP p d t)) ++ (insP p d t).drop (lowP p (insP p d t) + 1) ∧ dropV (insP p d t) p = .tup [.sl ((delP p (insP p d t)).flatMap fC) ((insP p d t).length - 1) (.excl 2), .int .i64 0] := by
        rcases drop_cases (insP p d t) p with ⟨a, _⟩ | ⟨_, a, _⟩ | ⟨_, _, _, h, a, b⟩
        · rw [hRU] at a; cases a
        · rw [hhU] at a; cases a
        · exact ⟨h, a, by rw [b, a]⟩
      have eL : (delP p t).length = (insP p d t).length - 1 := by
        rw [← hdel, eU, List.length_append, List.length_take, List.length_drop]; omega
      rw [eV, hdel]
      simp (maxSteps := 2000000) (disch := first | omega | (simp only [List.length_append, List.length_cons, List.length_nil, List.length_map] <;> omega)) only [q1, q2, q3, List.set_cons_zero, List.set_cons_succ, flg_int, flg_excl, exc_str, swp_seq, swp_reg, seqK_n, evK_some, appK_eq, appC_eq, srun_nil, srun_cons, stepK_call, sk_mv, sk_give, sk_ext, get_mk, raw_slot, put_some, wb_nil, wb_cons, ev_mv, ev_give, ev_ext, ro_int, ro_str, ro_excl, ro_tup, ro2_int, got_str, pubs, pubsFrom, List.map_cons, List.map_nil, List.getD_cons_zero, List.getD_cons_succ, List.set_cons_zero, List.set_cons_succ, List.getElem?_cons_zero, List.getElem?_cons_succ, Bool.false_eq_true, Option.map_some, ↓reduceIte]
      refine callK_intro (up (n16 hvS hs hst)) ?_
      rw [getR_right hR]
      simp (maxSteps := 2000000) (disch := first | omega | (simp only [List.length_append, List.length_cons, List.length_nil, List.length_map] <;> omega)) only [getV, List.set_cons_zero, List.set_cons_succ, pub_excl2, flg_bool, flg_str, exc_ro, exc_excl, swp_seq, swp_reg, seqK_n, evK_some, appK_eq, appC_eq, grd_t, srun_nil, srun_cons, stepK_call, stepK_grd, sk_mv, sk_take, sk_give, sk_bin, sk_ext, get_mk, raw_slot, raw_lit, put_some, wb_nil, wb_cons, ev_mv, ev_take, ev_give, ev_ext, bin_neq, ro_int, ro_bool, ro_str, ro_tup, ro2_str, ro2_bool, got_excl, got_roo, pubs, pubsFrom, List.map_cons, List.map_nil, List.getD_cons_zero, List.getD_cons_succ, List.set_cons_zero, List.set_cons_succ, List.getElem?_cons_zero, List.getElem?_cons_succ, Bool.false_eq_true, Option.map_some, ↓reduceIte, bne_self_eq_false]
      have hD := ro_row (st := (st ++ [.cells [.str p], .cells [.str p, .str d], .cells ((insP p d t).flatMap fC)])) eL
      refine callK_intro (up (n19 hD hsD hst)) ?_
      rw [hRD]
      simp (maxSteps := 2000000) (disch := first | omega | (simp only [List.length_append, List.length_cons, List.length_nil, List.length_map] <;> omega)) only [Bool.not_true, List.set_cons_zero, List.set_cons_succ, exc_str, exc_ro, exc_own, evK_some, appK_eq, appC_eq, grd_t, srun_cons, stepK_call, stepK_grd, sk_mv, sk_take, sk_pick, sk_un, get_mk, raw_slot, raw_lit, put_some, wb_nil, ev_mv, ev_take, ev_pick, ev_not, ro_bool, got_own, got_roo, got_str, pubs, pubsFrom, List.map_cons, List.map_nil, List.getD_cons_zero, List.getD_cons_succ, List.set_cons_zero, List.set_cons_succ, Bool.false_eq_true, ↓reduceIte, Bool.not_true]
      refine callK_intro (up (n21 hD hsD hst)) ?_
      rw [find_del]
      cases hw : (getP p t).isSome with
      | true =>
        simp (maxSteps := 2000000) (disch := first | omega | (simp only [List.length_append, List.length_cons, List.length_nil, List.length_map] <;> omega)) only [ge_iff_le, List.set_cons_zero, List.set_cons_succ, flg_bool, exc_bool, swp_seq, swp_reg, swp_skip, swp_ret, swp_cond, seqK_n, condK_f, evK_some, appK_eq, appC_eq, grd_t, srun_nil, srun_cons, stepK_grd, fin_ret, sk_mv, sk_take, sk_give, sk_pick, sk_bin, get_mk, raw_slot, raw_lit, put_some, wb_nil, ev_mv, ev_take, ev_give, ev_pick, bin_geq, ro_bool, got_bool, List.map_cons, List.map_nil, List.getD_cons_zero, List.getD_cons_succ, List.set_cons_zero, List.set_cons_succ, and_true, Bool.false_eq_true, ↓reduceIte, decide_false, reduceCtorEq, ge_iff_le, Int.reduceLE, Int.reduceNeg]
        first | exact ⟨_, .same, rfl⟩ | exact ⟨_, .same⟩
      | false =>
        have hn : has t p = false := by rw [has_get]; exact hw
        simp (maxSteps := 2000000) (disch := first | omega | (simp only [List.length_append, List.length_cons, List.length_nil, List.length_map] <;> omega)) only [ge_iff_le, q2, q3, List.set_cons_zero, List.set_cons_succ, exc_bool, exc_ro, exc_own, swp_seq, swp_reg, swp_skip, swp_cond, seqK_n, condK_f, evK_some, appK_eq, appC_eq, grd_t, srun_nil, srun_cons, stepK_call, stepK_grd, sk_mv, sk_take, sk_pick, sk_bin, get_mk, raw_slot, raw_lit, put_some, wb_nil, ev_mv, ev_take, ev_pick, bin_geq, ro_bool, got_own, got_roo, got_bool, pubs, pubsFrom, List.map_cons, List.map_nil, List.getD_cons_zero, List.getD_cons_succ, List.set_cons_zero, List.set_cons_succ, Bool.false_eq_true, ↓reduceIte, decide_false, ge_iff_le, Int.reduceLE, Int.reduceNeg]
        refine callK_intro (up (n23 hD hvS hsD.1)) ?_
        rw [del_none hn, show decide (t = t) = true from decide_eq_true rfl]
        simp (maxSteps := 2000000) (disch := first | omega | (simp only [List.length_append, List.length_cons, List.length_nil, List.length_map] <;> omega)) only [List.set_cons_zero, List.set_cons_succ, flg_bool, swp_ret, seqK_n, evK_some, appK_eq, appC_eq, grd_t, srun_nil, srun_cons, stepK_grd, fin_ret, sk_give, sk_pick, get_mk, raw_slot, raw_lit, put_some, wb_nil, ev_give, ev_pick, ro_bool, List.map_cons, List.map_nil, List.getD_cons_zero, List.getD_cons_succ, List.set_cons_zero, List.set_cons_succ, and_true, Bool.false_eq_true, ↓reduceIte, Int.reduceNeg]
        first | exact ⟨_, .same, rfl⟩ | exact ⟨_, .same⟩
  · have hUl : (insP p d t).length = t.length + 1 := by
      have := low_le p t
      rw [ei, List.length_append, List.length_cons, List.length_take, List.length_drop]; omega
    rw [← ei] at e2
    have hst : okSt st := ho
    have hU : RowF st (.sl ((insP p d t).flatMap fC) (t.length + 1) .ro) (insP p d t) := ro_row hUl
    have hvS : RowF st v t := hv
    obtain ⟨hhU, hRU, hGU⟩ := put_two e1
    have hsrt := right_srt hR
    have hsU := smT_ins hs hp hd hRU
    have hdel : delP p (insP p d t) = delP p t := del_ins hsrt
    have hsD := smT_del (p := p) hs
    have hRD := right_del (p := p) hR
    have w1 : (d == d) = true := beq_self_eq_true d
    have w2 : decide ((0 : Int) ≤ -1) = false := rfl
    have w3 : ∀ b : Bool, (b == b) = true := fun b => by cases b <;> rfl
    have w4 : ∀ x : List UInt8, (x == x) = true := fun x => beq_self_eq_true x
    have w5 := w4
    rw [e1, e2, e3]
    simp (maxSteps := 2000000) (disch := first | omega | (simp only [List.length_append, List.length_cons, List.length_nil, List.length_map] <;> omega)) only [List.append_nil, List.set_cons_zero, List.set_cons_succ, pub_excl2, flg_int, flg_excl, exc_str, exc_excl, swp_seq, swp_reg, swp_skip, swp_cond, seqK_n, condK_f, evK_some, appK_eq, appC_eq, srun_nil, srun_cons, stepK_call, sk_mv, sk_give, sk_bin, sk_ext, get_mk, raw_slot, raw_lit, put_some, wb_nil, wb_cons, ev_mv, ev_give, ev_ext, bin_neq, ro_int, ro_str, ro_excl, ro_tup, ro2_int, got_excl, got_str, pubs, pubsFrom, List.map_cons, List.map_nil, List.getD_cons_zero, List.getD_cons_succ, List.set_cons_zero, List.set_cons_succ, List.getElem?_cons_zero, List.getElem?_cons_succ, Bool.false_eq_true, Option.map_some, ↓reduceIte, List.append_nil, bne_self_eq_false]
    refine callK_intro (up (n16 hU hsU hst)) ?_
    rw [hGU]
    simp (maxSteps := 2000000) (disch := first | omega | (simp only [List.length_append, List.length_cons, List.length_nil, List.length_map] <;> omega)) only [getV, Option.getD_some, Option.isSome_some, w1, Bool.not_true, List.set_cons_zero, List.set_cons_succ, flg_bool, flg_str, exc_bool, exc_ro, exc_own, swp_seq, swp_reg, seqK_n, evK_some, appK_eq, appC_eq, grd_t, srun_nil, srun_cons, stepK_call, stepK_grd, sk_mv, sk_take, sk_give, sk_pick, sk_bin, sk_un, sk_ext, get_mk, raw_slot, raw_lit, put_some, wb_nil, wb_cons, ev_mv, ev_take, ev_give, ev_pick, ev_not, ev_ext, bin_neqS, ro_bool, ro_str, ro_tup, ro2_str, ro2_bool, got_own, got_roo, got_bool, pubs, pubsFrom, List.map_cons, List.map_nil, List.getD_cons_zero, List.getD_cons_succ, List.set_cons_zero, List.set_cons_succ, List.getElem?_cons_zero, List.getElem?_cons_succ, Bool.false_eq_true, Option.map_some, ↓reduceIte, Bool.not_true]
    refine callK_intro (up (n19 hU hsU hst)) ?_
    rw [hRU]
    simp (maxSteps := 2000000) (disch := first | omega | (simp only [List.length_append, List.length_cons, List.length_nil, List.length_map] <;> omega)) only [Bool.not_true, q1, q2, q3, List.set_cons_zero, List.set_cons_succ, exc_str, swp_seq, swp_reg, swp_skip, swp_cond, seqK_n, condK_f, evK_some, appK_eq, appC_eq, grd_t, srun_nil, srun_cons, stepK_call, stepK_grd, sk_mv, sk_pick, sk_un, get_mk, raw_slot, raw_lit, put_some, wb_nil, ev_mv, ev_pick, ev_not, ro_bool, ro_str, got_str, pubs, pubsFrom, List.map_cons, List.map_nil, List.getD_cons_zero, List.getD_cons_succ, List.set_cons_zero, List.set_cons_succ, Bool.false_eq_true, ↓reduceIte, Bool.not_true]
    refine callK_intro (up (n16 hvS hs hst)) ?_
    simp (maxSteps := 2000000) (disch := first | omega | (simp only [List.length_append, List.length_cons, List.length_nil, List.length_map] <;> omega)) only [getV, List.set_cons_zero, List.set_cons_succ, flg_bool, flg_str, exc_str, exc_own, swp_seq, swp_reg, seqK_n, evK_some, appK_eq, appC_eq, srun_nil, srun_cons, stepK_call, sk_mv, sk_give, sk_ext, get_mk, raw_slot, put_some, wb_nil, ev_mv, ev_give, ev_ext, ro_bool, ro_str, ro_own, ro_tup, ro2_str, ro2_bool, got_own, got_str, pubs, pubsFrom, List.map_cons, List.map_nil, List.getD_cons_zero, List.getD_cons_succ, List.set_cons_zero, List.set_cons_succ, List.getElem?_cons_zero, List.getElem?_cons_succ, Bool.false_eq_true, Option.map_some, ↓reduceIte]
    refine callK_intro (up (n16 hU hsU hst)) ?_
    have w6 : ∀ b : Bool, (b != b) = false := fun b => by cases b <;> rfl
    have hGo : getP o (insP p d t) = if o = p then some d else getP o t := get_ins _ _ _ _ hsrt
    rw [getR_right hR, getR_right hRU, hGo]
    by_cases hop : o = p
    · have w7 : (o == p) = true := by rw [beq_iff_eq]; exact hop
      simp (maxSteps := 2000000) (disch := first | omega | (simp only [List.length_append, List.length_cons, List.length_nil, List.length_map] <;> omega)) only [getV, w7, Bool.not_true, List.set_cons_zero, List.set_cons_succ, flg_bool, flg_str, exc_str, exc_own, grd_s, swp_seq, swp_reg, swp_skip, swp_cond, seqK_n, condK_f, evK_some, appK_eq, appC_eq, grd_t, srun_nil, srun_cons, stepK_call, stepK_grd, sk_mv, sk_give, sk_pick, sk_bin, sk_ext, get_mk, raw_slot, raw_lit, put_some, wb_nil, ev_mv, ev_give, ev_pick, ev_ext, bin_neqS, ro_bool, ro_str, ro_own, ro_tup, ro2_str, ro2_bool, got_own, got_str, pubs, pubsFrom, List.map_cons, List.map_nil, List.getD_cons_zero, List.getD_cons_succ, List.set_cons_zero, List.set_cons_succ, List.getElem?_cons_zero, List.getElem?_cons_succ, Bool.false_eq_true, Option.map_some, ↓reduceIte, Bool.not_true]
      refine callK_intro (up (n14 hU hsU hst)) ?_
      obtain ⟨hlU, eU, eV⟩ : ∃ h : lowP p (insP p d t) < (insP p d t).length, delP p (insP p d t) = (insP p d t).take (lowP p (insP p d t)) ++ (insP p d t).drop (lowP p (insP p d t) + 1) ∧ dropV (insP p d t) p = .tup [.sl ((delP p (insP p d t)).flatMap fC) ((insP p d t).length - 1) (.excl 2), .int .i64 0] := by
        rcases drop_cases (insP p d t) p with ⟨a, _⟩ | ⟨_, a, _⟩ | ⟨_, _, _, h, a, b⟩
        · rw [hRU] at a; cases a
        · rw [hhU] at a; cases a
        · exact ⟨h, a, by rw [b, a]⟩
      have eL : (delP p t).length = (insP p d t).length - 1 := by
        rw [← hdel, eU, List.length_append, List.length_take, List.length_drop]; omega
      rw [eV, hdel]
      simp (maxSteps := 2000000) (disch := first | omega | (simp only [List.length_append, List.length_cons, List.length_nil, List.length_map] <;> omega)) only [q1, q2, q3, List.set_cons_zero, List.set_cons_succ, flg_int, flg_excl, exc_str, swp_seq, swp_reg, seqK_n, evK_some, appK_eq, appC_eq, srun_nil, srun_cons, stepK_call, sk_mv, sk_give, sk_ext, get_mk, raw_slot, put_some, wb_nil, wb_cons, ev_mv, ev_give, ev_ext, ro_int, ro_str, ro_excl, ro_tup, ro2_int, got_str, pubs, pubsFrom, List.map_cons, List.map_nil, List.getD_cons_zero, List.getD_cons_succ, List.set_cons_zero, List.set_cons_succ, List.getElem?_cons_zero, List.getElem?_cons_succ, Bool.false_eq_true, Option.map_some, ↓reduceIte]
      refine callK_intro (up (n16 hvS hs hst)) ?_
      rw [getR_right hR]
      simp (maxSteps := 2000000) (disch := first | omega | (simp only [List.length_append, List.length_cons, List.length_nil, List.length_map] <;> omega)) only [getV, List.set_cons_zero, List.set_cons_succ, pub_excl2, flg_bool, flg_str, exc_ro, exc_excl, swp_seq, swp_reg, seqK_n, evK_some, appK_eq, appC_eq, grd_t, srun_nil, srun_cons, stepK_call, stepK_grd, sk_mv, sk_take, sk_give, sk_bin, sk_ext, get_mk, raw_slot, raw_lit, put_some, wb_nil, wb_cons, ev_mv, ev_take, ev_give, ev_ext, bin_neq, ro_int, ro_bool, ro_str, ro_tup, ro2_str, ro2_bool, got_excl, got_roo, pubs, pubsFrom, List.map_cons, List.map_nil, List.getD_cons_zero, List.getD_cons_succ, List.set_cons_zero, List.set_cons_succ, List.getElem?_cons_zero, List.getElem?_cons_succ, Bool.false_eq_true, Option.map_some, ↓reduceIte, bne_self_eq_false]
      have hD := ro_row (st := st) eL
      refine callK_intro (up (n19 hD hsD hst)) ?_
      rw [hRD]
      simp (maxSteps := 2000000) (disch := first | omega | (simp only [List.length_append, List.length_cons, List.length_nil, List.length_map] <;> omega)) only [Bool.not_true, List.set_cons_zero, List.set_cons_succ, exc_str, exc_ro, exc_own, evK_some, appK_eq, appC_eq, grd_t, srun_cons, stepK_call, stepK_grd, sk_mv, sk_take, sk_pick, sk_un, get_mk, raw_slot, raw_lit, put_some, wb_nil, ev_mv, ev_take, ev_pick, ev_not, ro_bool, got_own, got_roo, got_str, pubs, pubsFrom, List.map_cons, List.map_nil, List.getD_cons_zero, List.getD_cons_succ, List.set_cons_zero, List.set_cons_succ, Bool.false_eq_true, ↓reduceIte, Bool.not_true]
      refine callK_intro (up (n21 hD hsD hst)) ?_
      rw [find_del]
      cases hw : (getP p t).isSome with
      | true =>
        simp (maxSteps := 2000000) (disch := first | omega | (simp only [List.length_append, List.length_cons, List.length_nil, List.length_map] <;> omega)) only [ge_iff_le, List.set_cons_zero, List.set_cons_succ, flg_bool, exc_bool, swp_seq, swp_reg, swp_skip, swp_ret, swp_cond, seqK_n, condK_f, evK_some, appK_eq, appC_eq, grd_t, srun_nil, srun_cons, stepK_grd, fin_ret, sk_mv, sk_take, sk_give, sk_pick, sk_bin, get_mk, raw_slot, raw_lit, put_some, wb_nil, ev_mv, ev_take, ev_give, ev_pick, bin_geq, ro_bool, got_bool, List.map_cons, List.map_nil, List.getD_cons_zero, List.getD_cons_succ, List.set_cons_zero, List.set_cons_succ, and_true, Bool.false_eq_true, ↓reduceIte, decide_false, reduceCtorEq, ge_iff_le, Int.reduceLE, Int.reduceNeg]
        first | exact ⟨_, .same, rfl⟩ | exact ⟨_, .same⟩
      | false =>
        have hn : has t p = false := by rw [has_get]; exact hw
        simp (maxSteps := 2000000) (disch := first | omega | (simp only [List.length_append, List.length_cons, List.length_nil, List.length_map] <;> omega)) only [ge_iff_le, q2, q3, List.set_cons_zero, List.set_cons_succ, exc_bool, exc_ro, exc_own, swp_seq, swp_reg, swp_skip, swp_cond, seqK_n, condK_f, evK_some, appK_eq, appC_eq, grd_t, srun_nil, srun_cons, stepK_call, stepK_grd, sk_mv, sk_take, sk_pick, sk_bin, get_mk, raw_slot, raw_lit, put_some, wb_nil, ev_mv, ev_take, ev_pick, bin_geq, ro_bool, got_own, got_roo, got_bool, pubs, pubsFrom, List.map_cons, List.map_nil, List.getD_cons_zero, List.getD_cons_succ, List.set_cons_zero, List.set_cons_succ, Bool.false_eq_true, ↓reduceIte, decide_false, ge_iff_le, Int.reduceLE, Int.reduceNeg]
        refine callK_intro (up (n23 hD hvS hsD.1)) ?_
        rw [del_none hn, show decide (t = t) = true from decide_eq_true rfl]
        simp (maxSteps := 2000000) (disch := first | omega | (simp only [List.length_append, List.length_cons, List.length_nil, List.length_map] <;> omega)) only [List.set_cons_zero, List.set_cons_succ, flg_bool, swp_ret, seqK_n, evK_some, appK_eq, appC_eq, grd_t, srun_nil, srun_cons, stepK_grd, fin_ret, sk_give, sk_pick, get_mk, raw_slot, raw_lit, put_some, wb_nil, ev_give, ev_pick, ro_bool, List.map_cons, List.map_nil, List.getD_cons_zero, List.getD_cons_succ, List.set_cons_zero, List.set_cons_succ, and_true, Bool.false_eq_true, ↓reduceIte, Int.reduceNeg]
        first | exact ⟨_, .same, rfl⟩ | exact ⟨_, .same⟩
    · have w7 : (o == p) = false := by rw [beq_eq_false_iff_ne]; exact hop
      rw [if_neg hop]
      simp (maxSteps := 2000000) (disch := first | omega | (simp only [List.length_append, List.length_cons, List.length_nil, List.length_map] <;> omega)) only [getV, w3, w4, w7, Bool.not_false, Bool.not_true, List.set_cons_zero, List.set_cons_succ, flg_bool, flg_str, exc_bool, exc_str, exc_own, swp_seq, swp_reg, swp_skip, swp_cond, seqK_n, condK_f, evK_some, appK_eq, appC_eq, grd_t, srun_nil, srun_cons, stepK_call, stepK_grd, sk_mv, sk_take, sk_give, sk_pick, sk_bin, sk_eqB, sk_ext, get_mk, raw_slot, raw_lit, put_some, wb_nil, ev_mv, ev_take, ev_give, ev_pick, ev_eqB, ev_ext, bin_neqS, ro_bool, ro_str, ro_own, ro_tup, ro2_str, ro2_bool, got_own, got_bool, got_str, pubs, pubsFrom, List.map_cons, List.map_nil, List.getD_cons_zero, List.getD_cons_succ, List.set_cons_zero, List.set_cons_succ, List.getElem?_cons_zero, List.getElem?_cons_succ, Bool.false_eq_true, Option.map_some, ↓reduceIte, Bool.not_true, Bool.not_false]
      refine callK_intro (up (n14 hU hsU hst)) ?_
      obtain ⟨hlU, eU, eV⟩ : ∃ h : lowP p (insP p d t) < (insP p d t).length, delP p (insP p d t) = (insP p d t).take (lowP p (insP p d t)) ++ (insP p d t).drop (lowP p (insP p d t) + 1) ∧ dropV (insP p d t) p = .tup [.sl ((delP p (insP p d t)).flatMap fC) ((insP p d t).length - 1) (.excl 2), .int .i64 0] := by
        rcases drop_cases (insP p d t) p with ⟨a, _⟩ | ⟨_, a, _⟩ | ⟨_, _, _, h, a, b⟩
        · rw [hRU] at a; cases a
        · rw [hhU] at a; cases a
        · exact ⟨h, a, by rw [b, a]⟩
      have eL : (delP p t).length = (insP p d t).length - 1 := by
        rw [← hdel, eU, List.length_append, List.length_take, List.length_drop]; omega
      rw [eV, hdel]
      simp (maxSteps := 2000000) (disch := first | omega | (simp only [List.length_append, List.length_cons, List.length_nil, List.length_map] <;> omega)) only [q1, q2, q3, List.set_cons_zero, List.set_cons_succ, flg_int, flg_excl, exc_str, swp_seq, swp_reg, seqK_n, evK_some, appK_eq, appC_eq, srun_nil, srun_cons, stepK_call, sk_mv, sk_give, sk_ext, get_mk, raw_slot, put_some, wb_nil, wb_cons, ev_mv, ev_give, ev_ext, ro_int, ro_str, ro_excl, ro_tup, ro2_int, got_str, pubs, pubsFrom, List.map_cons, List.map_nil, List.getD_cons_zero, List.getD_cons_succ, List.set_cons_zero, List.set_cons_succ, List.getElem?_cons_zero, List.getElem?_cons_succ, Bool.false_eq_true, Option.map_some, ↓reduceIte]
      refine callK_intro (up (n16 hvS hs hst)) ?_
      rw [getR_right hR]
      simp (maxSteps := 2000000) (disch := first | omega | (simp only [List.length_append, List.length_cons, List.length_nil, List.length_map] <;> omega)) only [getV, List.set_cons_zero, List.set_cons_succ, pub_excl2, flg_bool, flg_str, exc_ro, exc_excl, swp_seq, swp_reg, seqK_n, evK_some, appK_eq, appC_eq, grd_t, srun_nil, srun_cons, stepK_call, stepK_grd, sk_mv, sk_take, sk_give, sk_bin, sk_ext, get_mk, raw_slot, raw_lit, put_some, wb_nil, wb_cons, ev_mv, ev_take, ev_give, ev_ext, bin_neq, ro_int, ro_bool, ro_str, ro_tup, ro2_str, ro2_bool, got_excl, got_roo, pubs, pubsFrom, List.map_cons, List.map_nil, List.getD_cons_zero, List.getD_cons_succ, List.set_cons_zero, List.set_cons_succ, List.getElem?_cons_zero, List.getElem?_cons_succ, Bool.false_eq_true, Option.map_some, ↓reduceIte, bne_self_eq_false]
      have hD := ro_row (st := st) eL
      refine callK_intro (up (n19 hD hsD hst)) ?_
      rw [hRD]
      simp (maxSteps := 2000000) (disch := first | omega | (simp only [List.length_append, List.length_cons, List.length_nil, List.length_map] <;> omega)) only [Bool.not_true, List.set_cons_zero, List.set_cons_succ, exc_str, exc_ro, exc_own, evK_some, appK_eq, appC_eq, grd_t, srun_cons, stepK_call, stepK_grd, sk_mv, sk_take, sk_pick, sk_un, get_mk, raw_slot, raw_lit, put_some, wb_nil, ev_mv, ev_take, ev_pick, ev_not, ro_bool, got_own, got_roo, got_str, pubs, pubsFrom, List.map_cons, List.map_nil, List.getD_cons_zero, List.getD_cons_succ, List.set_cons_zero, List.set_cons_succ, Bool.false_eq_true, ↓reduceIte, Bool.not_true]
      refine callK_intro (up (n21 hD hsD hst)) ?_
      rw [find_del]
      cases hw : (getP p t).isSome with
      | true =>
        simp (maxSteps := 2000000) (disch := first | omega | (simp only [List.length_append, List.length_cons, List.length_nil, List.length_map] <;> omega)) only [ge_iff_le, List.set_cons_zero, List.set_cons_succ, flg_bool, exc_bool, swp_seq, swp_reg, swp_skip, swp_ret, swp_cond, seqK_n, condK_f, evK_some, appK_eq, appC_eq, grd_t, srun_nil, srun_cons, stepK_grd, fin_ret, sk_mv, sk_take, sk_give, sk_pick, sk_bin, get_mk, raw_slot, raw_lit, put_some, wb_nil, ev_mv, ev_take, ev_give, ev_pick, bin_geq, ro_bool, got_bool, List.map_cons, List.map_nil, List.getD_cons_zero, List.getD_cons_succ, List.set_cons_zero, List.set_cons_succ, and_true, Bool.false_eq_true, ↓reduceIte, decide_false, reduceCtorEq, ge_iff_le, Int.reduceLE, Int.reduceNeg]
        first | exact ⟨_, .same, rfl⟩ | exact ⟨_, .same⟩
      | false =>
        have hn : has t p = false := by rw [has_get]; exact hw
        simp (maxSteps := 2000000) (disch := first | omega | (simp only [List.length_append, List.length_cons, List.length_nil, List.length_map] <;> omega)) only [ge_iff_le, q2, q3, List.set_cons_zero, List.set_cons_succ, exc_bool, exc_ro, exc_own, swp_seq, swp_reg, swp_skip, swp_cond, seqK_n, condK_f, evK_some, appK_eq, appC_eq, grd_t, srun_nil, srun_cons, stepK_call, stepK_grd, sk_mv, sk_take, sk_pick, sk_bin, get_mk, raw_slot, raw_lit, put_some, wb_nil, ev_mv, ev_take, ev_pick, bin_geq, ro_bool, got_own, got_roo, got_bool, pubs, pubsFrom, List.map_cons, List.map_nil, List.getD_cons_zero, List.getD_cons_succ, List.set_cons_zero, List.set_cons_succ, Bool.false_eq_true, ↓reduceIte, decide_false, ge_iff_le, Int.reduceLE, Int.reduceNeg]
        refine callK_intro (up (n23 hD hvS hsD.1)) ?_
        rw [del_none hn, show decide (t = t) = true from decide_eq_true rfl]
        simp (maxSteps := 2000000) (disch := first | omega | (simp only [List.length_append, List.length_cons, List.length_nil, List.length_map] <;> omega)) only [List.set_cons_zero, List.set_cons_succ, flg_bool, swp_ret, seqK_n, evK_some, appK_eq, appC_eq, grd_t, srun_nil, srun_cons, stepK_grd, fin_ret, sk_give, sk_pick, get_mk, raw_slot, raw_lit, put_some, wb_nil, ev_give, ev_pick, ro_bool, List.map_cons, List.map_nil, List.getD_cons_zero, List.getD_cons_succ, List.set_cons_zero, List.set_cons_succ, and_true, Bool.false_eq_true, ↓reduceIte, Int.reduceNeg]
        first | exact ⟨_, .same, rfl⟩ | exact ⟨_, .same⟩
end Go.Sh.F
