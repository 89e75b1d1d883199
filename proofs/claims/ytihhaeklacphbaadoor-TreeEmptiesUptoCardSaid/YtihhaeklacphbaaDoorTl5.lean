/-
  Trees: the law TreeEmpties, walked.
-/
import Derived.Test.YtihhaeklacphbaaDoorTl4
set_option linter.unusedSimpArgs false
set_option linter.unusedVariables false
namespace Go.Sh.F
open Go.PathLaw Go.TreeLaw Go.Proofs
set_option maxHeartbeats 100000000 in
set_option maxRecDepth 100000 in
theorem l7 (v : SV) (t : List F) (pv : SV) (pl : List Int) (st : List Ob) (hv' : rdR fC v t) (hs : smT t) (hP : RowI st pv pl) (ho : okSt st) : swpF O330 sf7 [v, pv] st (fun r _ => r = .bool true) := by
  have hv := rd_F hv' st
  obtain ⟨q1, q2, q3, q4, q6, q7⟩ := RowAt.facts hv
  have q5 := RowAt.lenL hv
  obtain ⟨p1, p2, p3, p4, p6, p7⟩ := RowAt.facts hP
  have p5 := RowAt.lenL hP
  have z0 : ((0 : Int) == 0) = true := rfl
  simp (maxSteps := 2000000) (disch := first | omega | (simp only [List.length_append, List.length_cons, List.length_nil, List.length_map] <;> omega)) only [sf7, List.set_cons_zero, List.set_cons_succ, flg_bool, swp_seq, swp_reg, seqK_n, evK_some, appK_eq, srun_nil, srun_cons, stepK_call, swpF_eq, sk_give, raw_lit, put_some, wb_nil, ev_give, ro_bool, pubs, pubsFrom, List.map_cons, List.map_nil, List.set_cons_zero, List.set_cons_succ, List.length_cons, List.length_nil, List.replicate_succ, List.replicate_zero, List.cons_append, List.nil_append, Nat.reduceAdd, Nat.reduceSub, Bool.false_eq_true, ↓reduceIte, Nat.zero_add]
  refine callK_intro (nS ho) ?_
  simp (maxSteps := 2000000) (disch := first | omega | (simp only [List.length_append, List.length_cons, List.length_nil, List.length_map] <;> omega)) only [q1, q2, q3, List.set_cons_zero, List.set_cons_succ, flg_bool, swp_seq, swp_reg, seqK_n, evK_some, appK_eq, appC_eq, srun_nil, srun_cons, stepK_call, sk_mv, sk_give, get_mk, raw_slot, put_some, wb_nil, ev_mv, ev_give, ro_bool, pubs, pubsFrom, List.map_cons, List.map_nil, List.getD_cons_zero, List.getD_cons_succ, List.set_cons_zero, List.set_cons_succ, Bool.false_eq_true, ↓reduceIte]
  refine callK_intro (up (n11 hv hs.1)) ?_
  cases hF : fewT t with
  | false =>
    simp (maxSteps := 2000000) (disch := first | omega | (simp only [List.length_append, List.length_cons, List.length_nil, List.length_map] <;> omega)) only [Bool.not_false, List.set_cons_zero, List.set_cons_succ, flg_bool, swp_seq, swp_reg, swp_ret, swp_cond, seqK_n, seqK_r, condK_t, evK_some, appK_eq, appC_eq, grd_t, srun_nil, srun_cons, stepK_grd, fin_ret, sk_mv, sk_give, sk_pick, sk_un, get_mk, raw_slot, raw_lit, put_some, wb_nil, ev_mv, ev_give, ev_pick, ev_not, ro_bool, List.map_cons, List.map_nil, List.getD_cons_zero, List.getD_cons_succ, List.set_cons_zero, List.set_cons_succ, and_true, Bool.false_eq_true, ↓reduceIte, reduceCtorEq, Bool.not_false]
    first | exact ⟨_, .same, rfl⟩ | exact ⟨_, .same⟩
  | true =>
  simp (maxSteps := 2000000) (disch := first | omega | (simp only [List.length_append, List.length_cons, List.length_nil, List.length_map] <;> omega)) only [Bool.not_true, q2, q3, List.set_cons_zero, List.set_cons_succ, flg_bool, swp_seq, swp_reg, seqK_n, evK_some, appK_eq, appC_eq, grd_t, srun_nil, srun_cons, stepK_call, stepK_grd, sk_mv, sk_take, sk_give, sk_un, get_mk, raw_slot, put_some, wb_nil, ev_mv, ev_take, ev_give, ev_not, ro_bool, pubs, pubsFrom, List.map_cons, List.map_nil, List.getD_cons_zero, List.getD_cons_succ, List.set_cons_zero, List.set_cons_succ, Bool.false_eq_true, ↓reduceIte, Bool.not_true]
  refine callK_intro (up (n19 hv hs ho)) ?_
  cases hR : rightT t with
  | false =>
    simp (maxSteps := 2000000) (disch := first | omega | (simp only [List.length_append, List.length_cons, List.length_nil, List.length_map] <;> omega)) only [Bool.not_false, List.set_cons_zero, List.set_cons_succ, flg_bool, swp_seq, swp_reg, swp_ret, swp_cond, seqK_n, seqK_r, condK_t, evK_some, appK_eq, appC_eq, grd_t, srun_nil, srun_cons, stepK_grd, fin_ret, sk_mv, sk_give, sk_pick, sk_un, get_mk, raw_slot, raw_lit, put_some, wb_nil, ev_mv, ev_give, ev_pick, ev_not, ro_bool, List.map_cons, List.map_nil, List.getD_cons_zero, List.getD_cons_succ, List.set_cons_zero, List.set_cons_succ, and_true, Bool.false_eq_true, ↓reduceIte, Bool.not_false]
    first | exact ⟨_, .same, rfl⟩ | exact ⟨_, .same⟩
  | true =>
  have h40 := (fewT_iff hF).1
  simp (maxSteps := 2000000) (disch := first | omega | (simp only [List.length_append, List.length_cons, List.length_nil, List.length_map] <;> omega)) only [Bool.not_true, q1, q2, q3, q5, List.set_cons_zero, List.set_cons_succ, flg_int, exc_int, swp_seq, swp_reg, swp_skip, swp_block, swp_cond, seqK_n, condK_f, evK_some, appK_eq, appC_eq, grd_t, srun_nil, srun_cons, stepK_grd, sk_mv, sk_take, sk_give, sk_pick, sk_un, sk_lenL, get_mk, raw_slot, raw_lit, put_some, wb_nil, ev_mv, ev_take, ev_give, ev_pick, ev_not, ro_int, ro_bool, got_int, List.map_cons, List.map_nil, List.getD_cons_zero, List.getD_cons_succ, List.set_cons_zero, List.set_cons_succ, Bool.false_eq_true, ↓reduceIte, Bool.not_true]
  refine swp_lp (fun S => ∃ (i : Nat) (w : SV) (u : List F), i ≤ t.length ∧ RowF st w u ∧ smT u ∧ rightT u = true ∧ u.length = t.length - i ∧ S = ⟨[v, pv, .undef, .undef, .bool false, .bool true, .bool true, .int .i64 t.length, w, .int .i64 i] ++ List.replicate 77 .undef, st⟩)
    (fun S => match S.get 9 with | .int _ k => ((t.length : Int) - k).toNat | _ => 0)
    ⟨[v, pv, .undef, .undef, .bool false, .bool true, .bool true, .int .i64 t.length, v, .int .i64 0] ++ List.replicate 77 .undef, st⟩ ?_ ⟨0, v, t, Nat.zero_le _, hv, hs, hR, by omega, rfl⟩ ?_
  · refine Forget.of ?_
    repeat first | exact fg_e | refine fg_d ?_ | refine fg_k rfl ?_
  rintro S ⟨i, w, u, hi, hw, hsu, hRu, hul, rfl⟩
  obtain ⟨w1, w2, w3, w4, w6, w7⟩ := RowAt.facts hw
  have w5 := RowAt.lenL hw
  by_cases him : i = t.length
  · have hd : decide ((i : Int) < (t.length : Int)) = false := by rw [decide_eq_false_iff_not]; omega
    have hu0 : u = [] := List.length_eq_zero_iff.1 (by omega)
    subst hu0
    have hz : (((([] : List F).length : Nat) : Int) == 0) = true := rfl
    simp (maxSteps := 2000000) (disch := first | omega | (simp only [List.length_append, List.length_cons, List.length_nil, List.length_map] <;> omega)) only [hd, w2, w3, w5, List.set_cons_zero, List.set_cons_succ, lpK_e, swp_seq, swp_reg, swp_exit, swp_cond, seqK_n, seqK_e, blkK_e, condK_f, evK_some, appK_eq, grd_t, srun_nil, srun_cons, stepK_call, stepK_grd, sk_mv, sk_take, sk_pick, sk_bin, sk_lenL, get_mk, raw_slot, raw_lit, put_some, wb_nil, ev_mv, ev_take, ev_pick, bin_eql, bin_lss, ro_int, ro_bool, pubs, pubsFrom, List.map_cons, List.map_nil, List.getD_cons_zero, List.getD_cons_succ, List.set_cons_zero, List.set_cons_succ, List.length_nil, List.replicate_succ, List.replicate_zero, List.cons_append, List.nil_append, Bool.false_eq_true, ↓reduceIte, beq_self_eq_true, Int.cast_ofNat_Int]
    refine callK_intro (up (n24 hw hsu.1 (fun f hf => (hsu.2 f hf).2) ho)) ?_
    have hz2 : (((szT [] : Nat) : Int) == 0) = true := rfl
    simp (maxSteps := 2000000) (disch := first | omega | (simp only [List.length_append, List.length_cons, List.length_nil, List.length_map] <;> omega)) only [hz2, List.set_cons_zero, List.set_cons_succ, flg_bool, swp_ret, seqK_n, evK_some, appK_eq, appC_eq, grd_t, srun_nil, srun_cons, stepK_grd, fin_ret, sk_give, sk_pick, sk_bin, get_mk, raw_slot, raw_lit, put_some, wb_nil, ev_give, ev_pick, bin_eql, ro_bool, List.map_cons, List.map_nil, List.getD_cons_zero, List.getD_cons_succ, List.set_cons_zero, List.set_cons_succ, and_true, Bool.false_eq_true, ↓reduceIte]
    first | exact ⟨_, .same, rfl⟩ | exact ⟨_, .same⟩
  have hd : decide ((i : Int) < (t.length : Int)) = true := by rw [decide_eq_true_eq]; omega
  have fin := fin_ltT (show i < t.length by omega)
  have hu1 : 0 < u.length := by omega
  have pi : ∀ (h : i < pl.length), ev st (.load 1 false) [adr pv i] = some (.int .i64 pl[i], [], st) := fun h => RowAt.ld1' hP (k := i) (c := .int .i64 pl[i]) (by simp [isv, h])
  have y1 : ∀ s, ev s (.idxB 2) [w, .int .i64 0] = some (adr w 0, [], s) := fun s => by have := RowAt.idxB hw hu1 .i64 s; simpa using this
  have y2 : ∀ s, ev s (.fld 0) [adr w 0] = some (adr w 0, [], s) := fun s => RowAt.fld hw hu1 0 0 s
  have y3 : ev st (.load 1 false) [adr w 0] = some (.str u[0].1, [], st) := by
    have := RowF.f0 hw hu1 []
    simpa using this
  rcases bf (decide ((i : Int) < (pl.length : Int))) with g1 | g1
  rotate_left
  · have g1' : i < pl.length := by have := of_decide_eq_true g1; omega
    have pI := RowAt.idxB hP g1' .i64
    simp only [Nat.mul_one] at pI
    have pL := pi g1'
    rcases bf (decide ((0 : Int) < pl[i])) with g2 | g2
    rotate_left
    · have g2' : 0 < pl[i] := of_decide_eq_true g2
      obtain ⟨k, hk⟩ : ∃ k : Nat, pl[i].tmod (u.length : Int) = (k : Int) := ⟨(pl[i].tmod (u.length : Int)).toNat, by
        rw [Int.tmod_eq_emod_of_nonneg (by omega)]
        have := Int.emod_nonneg pl[i] (show ((u.length : Int)) ≠ 0 by omega)
        omega⟩
      have hku : k < u.length := by
        rw [Int.tmod_eq_emod_of_nonneg (by omega)] at hk
        have := Int.emod_lt_of_pos pl[i] (show (0 : Int) < (u.length : Int) by omega)
        omega
      have hrem : ∀ s, ev s (.bin .rem) [.int .i64 pl[i], .int .i64 (u.length : Int)] = some (.int .i64 (k : Int), [], s) := fun s => by
        rw [bin_rem (by omega), hk]
      have x1 := RowAt.idxB hw hku .i64
      have x2 := fun s => RowAt.fld hw (by omega) (k * 2) 0 s
      have x3 := RowF.f0 hw hku []
      simp only [List.append_nil, Nat.add_zero] at x2 x3
      obtain ⟨d1, d2, d3, d4⟩ := drop_at hRu hku
      have hRd := right_del (p := u[k].1) hRu
      have hsd := smT_del (p := u[k].1) hsu
      have hy := ro_row (st := st) d2
      have e1 : IntKind.i64.wrap ((u.length : Int) - 1) = ((u.length - 1 : Nat) : Int) := by rw [wrap_i64 (by omega) (by omega)]; omega
      have zy : (((u.length - 1 : Nat) : Int) == ((u.length - 1 : Nat) : Int)) = true := beq_self_eq_true _
      simp (maxSteps := 2000000) (disch := first | omega | (simp only [List.length_append, List.length_cons, List.length_nil, List.length_map] <;> omega)) only [hd, g1, g2, pI, pL, hrem, x1, x2, x3, w1, w2, w3, w5, p1, p2, p3, p5, List.set_cons_zero, List.set_cons_succ, flg_int, exc_int, exc_str, sk_idxB, swp_seq, swp_reg, swp_skip, swp_block, swp_cond, seqK_n, condK_t, evK_some, appK_eq, grd_t, srun_nil, srun_cons, stepK_call, stepK_grd, sk_mv, sk_take, sk_give, sk_pick, sk_bin, sk_fld, sk_load, sk_lenL, get_mk, raw_slot, raw_lit, put_some, wb_nil, ev_mv, ev_take, ev_give, ev_pick, bin_lss, bin_gtr, ro_int, ro_bool, got_int, got_str, pubs, pubsFrom, List.map_cons, List.map_nil, List.getD_cons_zero, List.getD_cons_succ, List.set_cons_zero, List.set_cons_succ, List.replicate_succ, List.replicate_zero, List.cons_append, List.nil_append, Bool.false_eq_true, ↓reduceIte, gt_iff_lt]
      refine callK_intro (up (n14 hw hsu ho)) ?_
      rw [d1]
      simp (maxSteps := 2000000) (disch := first | omega | (simp only [List.length_append, List.length_cons, List.length_nil, List.length_map] <;> omega)) only [e1, w2, w3, w5, List.set_cons_zero, List.set_cons_succ, pub_excl2, flg_int, flg_excl, exc_ro, exc_own, exc_excl, swp_seq, swp_reg, seqK_n, evK_some, appK_eq, appC_eq, grd_t, srun_nil, srun_cons, stepK_call, stepK_grd, sk_mv, sk_take, sk_give, sk_pick, sk_bin, sk_lenL, sk_ext, get_mk, raw_slot, raw_lit, put_some, wb_nil, wb_cons, ev_mv, ev_take, ev_give, ev_pick, ev_lenL, ev_ext, bin_sub, bin_neq, ro_int, ro_bool, ro_excl, ro_tup, ro2_int, got_excl, got_own, got_roo, pubs, pubsFrom, List.map_cons, List.map_nil, List.getD_cons_zero, List.getD_cons_succ, List.set_cons_zero, List.set_cons_succ, List.getElem?_cons_zero, List.getElem?_cons_succ, Bool.false_eq_true, Option.map_some, ↓reduceIte, bne_self_eq_false]
      refine callK_intro (up (n19 hy hsd ho)) ?_
      rw [hRd]
      simp (maxSteps := 2000000) (disch := first | omega | (simp only [List.length_append, List.length_cons, List.length_nil, List.length_map] <;> omega)) only [Bool.not_true, List.set_cons_zero, List.set_cons_succ, lpK_n, flg_int, exc_own, swp_reg, swp_skip, swp_cond, seqK_n, blkK_n, condK_f, evK_some, appK_eq, appC_eq, grd_t, srun_nil, srun_cons, stepK_grd, sk_mv, sk_take, sk_give, sk_pick, sk_bin, sk_un, get_mk, raw_slot, raw_lit, put_some, wb_nil, ev_mv, ev_take, ev_give, ev_pick, ev_not, bin_add, ro_int, ro_bool, ro_own, got_own, List.map_cons, List.map_nil, List.getD_cons_zero, List.getD_cons_succ, List.set_cons_zero, List.set_cons_succ, Bool.false_eq_true, ↓reduceIte, Bool.not_true, wrap_i64]
      refine ⟨_, ?_, ⟨i + 1, _, _, by omega, hy, hsd, hRd, by omega, rfl⟩, by exact fin⟩
      refine Forget.of ?_
      repeat first | exact fg_e | refine fg_d ?_ | refine fg_k rfl ?_
    · obtain ⟨d1, d2, d3, d4⟩ := drop_at hRu hu1
      have hRd := right_del (p := u[0].1) hRu
      have hsd := smT_del (p := u[0].1) hsu
      have hy := ro_row (st := st) d2
      have e1 : IntKind.i64.wrap ((u.length : Int) - 1) = ((u.length - 1 : Nat) : Int) := by rw [wrap_i64 (by omega) (by omega)]; omega
      have zy : (((u.length - 1 : Nat) : Int) == ((u.length - 1 : Nat) : Int)) = true := beq_self_eq_true _
      simp (maxSteps := 2000000) (disch := first | omega | (simp only [List.length_append, List.length_cons, List.length_nil, List.length_map] <;> omega)) only [hd, g1, g2, pI, pL, y1, y2, y3, w1, w2, w3, p1, p2, p3, p5, List.set_cons_zero, List.set_cons_succ, exc_int, exc_str, sk_idxB, swp_seq, swp_reg, swp_skip, swp_block, swp_cond, seqK_n, condK_t, condK_f, evK_some, appK_eq, grd_t, srun_nil, srun_cons, stepK_call, stepK_grd, sk_mv, sk_take, sk_pick, sk_bin, sk_fld, sk_load, sk_lenL, get_mk, raw_slot, raw_lit, put_some, wb_nil, ev_mv, ev_take, ev_pick, bin_lss, bin_gtr, ro_int, ro_bool, got_int, got_str, pubs, pubsFrom, List.map_cons, List.map_nil, List.getD_cons_zero, List.getD_cons_succ, List.set_cons_zero, List.set_cons_succ, List.replicate_succ, List.replicate_zero, List.cons_append, List.nil_append, Bool.false_eq_true, ↓reduceIte, gt_iff_lt]
      refine callK_intro (up (n14 hw hsu ho)) ?_
      rw [d1]
      simp (maxSteps := 2000000) (disch := first | omega | (simp only [List.length_append, List.length_cons, List.length_nil, List.length_map] <;> omega)) only [e1, w2, w3, w5, List.set_cons_zero, List.set_cons_succ, pub_excl2, flg_int, flg_excl, exc_ro, exc_own, exc_excl, swp_seq, swp_reg, seqK_n, evK_some, appK_eq, appC_eq, grd_t, srun_nil, srun_cons, stepK_call, stepK_grd, sk_mv, sk_take, sk_give, sk_pick, sk_bin, sk_lenL, sk_ext, get_mk, raw_slot, raw_lit, put_some, wb_nil, wb_cons, ev_mv, ev_take, ev_give, ev_pick, ev_lenL, ev_ext, bin_sub, bin_neq, ro_int, ro_bool, ro_excl, ro_tup, ro2_int, got_excl, got_own, got_roo, pubs, pubsFrom, List.map_cons, List.map_nil, List.getD_cons_zero, List.getD_cons_succ, List.set_cons_zero, List.set_cons_succ, List.getElem?_cons_zero, List.getElem?_cons_succ, Bool.false_eq_true, Option.map_some, ↓reduceIte, bne_self_eq_false]
      refine callK_intro (up (n19 hy hsd ho)) ?_
      rw [hRd]
      simp (maxSteps := 2000000) (disch := first | omega | (simp only [List.length_append, List.length_cons, List.length_nil, List.length_map] <;> omega)) only [Bool.not_true, List.set_cons_zero, List.set_cons_succ, lpK_n, flg_int, exc_own, swp_reg, swp_skip, swp_cond, seqK_n, blkK_n, condK_f, evK_some, appK_eq, appC_eq, grd_t, srun_nil, srun_cons, stepK_grd, sk_mv, sk_take, sk_give, sk_pick, sk_bin, sk_un, get_mk, raw_slot, raw_lit, put_some, wb_nil, ev_mv, ev_take, ev_give, ev_pick, ev_not, bin_add, ro_int, ro_bool, ro_own, got_own, List.map_cons, List.map_nil, List.getD_cons_zero, List.getD_cons_succ, List.set_cons_zero, List.set_cons_succ, Bool.false_eq_true, ↓reduceIte, Bool.not_true, wrap_i64]
      refine ⟨_, ?_, ⟨i + 1, _, _, by omega, hy, hsd, hRd, by omega, rfl⟩, by exact fin⟩
      refine Forget.of ?_
      repeat first | exact fg_e | refine fg_d ?_ | refine fg_k rfl ?_
  · obtain ⟨d1, d2, d3, d4⟩ := drop_at hRu hu1
    have hRd := right_del (p := u[0].1) hRu
    have hsd := smT_del (p := u[0].1) hsu
    have hy := ro_row (st := st) d2
    have e1 : IntKind.i64.wrap ((u.length : Int) - 1) = ((u.length - 1 : Nat) : Int) := by rw [wrap_i64 (by omega) (by omega)]; omega
    have zy : (((u.length - 1 : Nat) : Int) == ((u.length - 1 : Nat) : Int)) = true := beq_self_eq_true _
    simp (maxSteps := 2000000) (disch := first | omega | (simp only [List.length_append, List.length_cons, List.length_nil, List.length_map] <;> omega)) only [hd, g1, y1, y2, y3, w1, w2, w3, p1, p5, List.set_cons_zero, List.set_cons_succ, exc_int, exc_str, sk_idxB, swp_seq, swp_reg, swp_skip, swp_block, swp_cond, seqK_n, condK_t, condK_f, evK_some, appK_eq, grd_t, srun_nil, srun_cons, stepK_call, stepK_grd, sk_mv, sk_take, sk_pick, sk_bin, sk_fld, sk_load, sk_lenL, get_mk, raw_slot, raw_lit, put_some, wb_nil, ev_mv, ev_take, ev_pick, bin_lss, ro_int, ro_bool, got_int, got_str, pubs, pubsFrom, List.map_cons, List.map_nil, List.getD_cons_zero, List.getD_cons_succ, List.set_cons_zero, List.set_cons_succ, List.replicate_succ, List.replicate_zero, List.cons_append, List.nil_append, Bool.false_eq_true, ↓reduceIte]
    refine callK_intro (up (n14 hw hsu ho)) ?_
    rw [d1]
    simp (maxSteps := 2000000) (disch := first | omega | (simp only [List.length_append, List.length_cons, List.length_nil, List.length_map] <;> omega)) only [e1, w2, w3, w5, List.set_cons_zero, List.set_cons_succ, pub_excl2, flg_int, flg_excl, exc_ro, exc_own, exc_excl, swp_seq, swp_reg, seqK_n, evK_some, appK_eq, appC_eq, grd_t, srun_nil, srun_cons, stepK_call, stepK_grd, sk_mv, sk_take, sk_give, sk_pick, sk_bin, sk_lenL, sk_ext, get_mk, raw_slot, raw_lit, put_some, wb_nil, wb_cons, ev_mv, ev_take, ev_give, ev_pick, ev_lenL, ev_ext, bin_sub, bin_neq, ro_int, ro_bool, ro_excl, ro_tup, ro2_int, got_excl, got_own, got_roo, pubs, pubsFrom, List.map_cons, List.map_nil, List.getD_cons_zero, List.getD_cons_succ, List.set_cons_zero, List.set_cons_succ, List.getElem?_cons_zero, List.getElem?_cons_succ, Bool.false_eq_true, Option.map_some, ↓reduceIte, bne_self_eq_false]
    refine callK_intro (up (n19 hy hsd ho)) ?_
    rw [hRd]
    simp (maxSteps := 2000000) (disch := first | omega | (simp only [List.length_append, List.length_cons, List.length_nil, List.length_map] <;> omega)) only [Bool.not_true, List.set_cons_zero, List.set_cons_succ, lpK_n, flg_int, exc_own, swp_reg, swp_skip, swp_cond, seqK_n, blkK_n, condK_f, evK_some, appK_eq, appC_eq, grd_t, srun_nil, srun_cons, stepK_grd, sk_mv, sk_take, sk_give, sk_pick, sk_bin, sk_un, get_mk, raw_slot, raw_lit, put_some, wb_nil, ev_mv, ev_take, ev_give, ev_pick, ev_not, bin_add, ro_int, ro_bool, ro_own, got_own, List.map_cons, List.map_nil, List.getD_cons_zero, List.getD_cons_succ, List.set_cons_zero, List.set_cons_succ, Bool.false_eq_true, ↓reduceIte, Bool.not_true, wrap_i64]
    refine ⟨_, ?_, ⟨i + 1, _, _, by omega, hy, hsd, hRd, by omega, rfl⟩, by exact fin⟩
    refine Forget.of ?_
    repeat first | exact fg_e | refine fg_d ?_ | refine fg_k rfl ?_
end Go.Sh.F
