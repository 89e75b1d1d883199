/-
  PathBack, PathOrder, in the shadow machine.
-/
import Derived.Test.YtdbpcmapcmchbaaDoorQ7
set_option linter.unusedSimpArgs false
set_option linter.unusedVariables false
namespace Go.Sh.F
open Go.PathLaw Go.Proofs
def fineTo (l : List (List UInt8)) (i : Nat) : Bool := decide (1 ≤ l.length) && decide (l.length ≤ 4) && (l.take i).all nameB
set_option maxHeartbeats 8000000 in
theorem fBack (v : SV) (l : List (List UInt8)) (s : List UInt8) (hv : rdS v l) (hs : s.length ≤ 1048576) (hl : l.length ≤ 1048576) (hf : l.flatten.length ≤ 1048576) :
    swpF O23 sf5 [v, .str s] [] (fun r _ => r = .bool true) := by
  obtain ⟨q1, q2, q3, q4, q5⟩ := rdS_facts hv
  have ss : sm s := sm_of hs (by omega)
  have sl : smL l := ⟨by omega, by omega⟩
  have sA : ∀ x ∈ l, sm x := fun x hx => sm_of (mem_flat l x hx) (by omega)
  have hb : ∀ b : Bool, (b == b) = true := by intro b; cases b <;> rfl
  have hbl : ∀ b : List UInt8, (b == b) = true := by intro b; simp
  simp (maxSteps := 2000000) (disch := first | omega | (simp only [List.length_append, List.length_cons, List.length_nil, List.length_map] <;> omega)) only [sf5, flg_bool, swp_seq, swp_reg, seqK_n, evK_some, appK_eq, srun_nil, srun_cons, stepK_call, swpF_eq, sk_give, raw_lit, put_some, wb_nil, ev_give, ro_bool, pubs, pubsFrom, List.map_cons, List.map_nil, List.set_cons_zero, List.set_cons_succ, List.length_cons, List.length_nil, List.replicate_succ, List.replicate_zero, List.cons_append, List.nil_append, Nat.reduceAdd, Nat.reduceSub, Bool.false_eq_true, ↓reduceIte, Nat.zero_add]
  refine callK_intro (p10 _) ?_
  by_cases h1 : (10 : Int) < l.length
  · have d1 : decide ((10 : Int) < (l.length : Int)) = true := by simpa using h1
    simp (maxSteps := 2000000) (disch := first | omega | (simp only [List.length_append, List.length_cons, List.length_nil, List.length_map] <;> omega)) only [d1, q1, q5, flg_bool, swp_seq, swp_reg, swp_ret, swp_cond, seqK_n, seqK_r, condK_t, evK_some, appK_eq, appC_eq, grd_t, srun_nil, srun_cons, stepK_grd, fin_ret, sk_mv, sk_give, sk_pick, sk_bin, sk_lenL, get_mk, raw_slot, raw_lit, put_some, wb_nil, ev_mv, ev_give, ev_pick, bin_gtr, ro_bool, List.map_cons, List.map_nil, List.getD_cons_zero, List.getD_cons_succ, List.set_cons_zero, List.set_cons_succ, List.length_nil, and_true, Bool.false_eq_true, ↓reduceIte, reduceCtorEq, gt_iff_lt]
    first | exact ⟨_, .same⟩ | exact ⟨_, .same, rfl⟩ | exact ⟨_, .same, rfl, rfl⟩
  have d1 : decide ((10 : Int) < (l.length : Int)) = false := by simpa using h1
  by_cases h2 : (300 : Int) < s.length
  · have d2 : decide ((300 : Int) < (s.length : Int)) = true := by simpa using h2
    simp (maxSteps := 2000000) (disch := first | omega | (simp only [List.length_append, List.length_cons, List.length_nil, List.length_map] <;> omega)) only [d1, d2, q1, q5, flg_bool, exc_str, swp_seq, swp_reg, swp_ret, swp_cond, seqK_n, seqK_r, condK_t, evK_some, appK_eq, appC_eq, grd_t, srun_nil, srun_cons, stepK_grd, fin_ret, sk_mv, sk_take, sk_give, sk_pick, sk_bin, sk_lenS, sk_lenL, get_mk, raw_slot, raw_lit, put_some, wb_nil, ev_mv, ev_take, ev_give, ev_pick, ev_lenS, bin_gtr, ro_bool, got_str, List.map_cons, List.map_nil, List.getD_cons_zero, List.getD_cons_succ, List.set_cons_zero, List.set_cons_succ, List.length_nil, and_true, Bool.false_eq_true, ↓reduceIte, gt_iff_lt]
    first | exact ⟨_, .same⟩ | exact ⟨_, .same, rfl⟩ | exact ⟨_, .same, rfl, rfl⟩
  have d2 : decide ((300 : Int) < (s.length : Int)) = false := by simpa using h2
  have hstart : ∀ b1 b2, decide ((1 : Int) ≤ (l.length : Int)) = b1 → decide ((l.length : Int) ≤ 4) = b2 → fineTo l 0 = (b1 && b2) := by
    rintro b1 b2 rfl rfl
    have e1 : decide ((1 : Int) ≤ (l.length : Int)) = decide (1 ≤ l.length) := by rw [decide_eq_decide]; omega
    have e2 : decide ((l.length : Int) ≤ 4) = decide (l.length ≤ 4) := by rw [decide_eq_decide]; omega
    rw [e1, e2, fineTo]; simp
  obtain ⟨b1, hb1⟩ : ∃ b, decide ((1 : Int) ≤ (l.length : Int)) = b := ⟨_, rfl⟩
  obtain ⟨b2, hb2⟩ : ∃ b, decide ((l.length : Int) ≤ 4) = b := ⟨_, rfl⟩
  have h0 := hstart b1 b2 hb1 hb2
  cases b1 <;> cases b2
  all_goals
    simp only [Bool.and_true, Bool.and_false] at h0
    simp (maxSteps := 2000000) (disch := first | omega | (simp only [List.length_append, List.length_cons, List.length_nil, List.length_map] <;> omega)) only [hb1, hb2, d1, d2, q1, q2, q3, q5, flg_bool, exc_int, exc_str, swp_seq, swp_reg, swp_skip, swp_block, swp_cond, seqK_n, condK_f, evK_some, appK_eq, appC_eq, grd_t, srun_nil, srun_cons, stepK_grd, sk_mv, sk_take, sk_give, sk_pick, sk_bin, sk_lenS, sk_lenL, get_mk, raw_slot, raw_lit, put_some, wb_nil, ev_mv, ev_take, ev_give, ev_pick, ev_lenS, bin_leq, bin_gtr, bin_geq, ro_bool, got_int, got_str, List.map_cons, List.map_nil, List.getD_cons_zero, List.getD_cons_succ, List.set_cons_zero, List.set_cons_succ, Bool.false_eq_true, ↓reduceIte, ge_iff_le, gt_iff_lt]
    refine swp_lp (fun S => ∃ (i : Nat), i ≤ l.length ∧
        S = ⟨[v, .str s, .undef, .undef, .bool false, .bool true, .bool (fineTo l i), .int .i64 i] ++ List.replicate 87 .undef, []⟩)
        (fun S => match S.get 7 with | .int _ k => ((l.length : Int) - k).toNat | _ => 0)
        ⟨[v, .str s, .undef, .undef, .bool false, .bool true, .bool (fineTo l 0), .int .i64 0] ++ List.replicate 87 .undef, []⟩ ?_ ⟨0, Nat.zero_le _, rfl⟩ ?_
    · refine Forget.of ?_
      rw [h0]
      repeat first | exact fg_e | refine fg_d ?_ | refine fg_k rfl ?_
    rintro S ⟨i, hi, rfl⟩
    by_cases him : i = l.length
    case neg =>
      have hd : decide ((i : Int) < (l.length : Int)) = true := by rw [decide_eq_true_eq]; omega
      have hil : i < l.length := by omega
      have hat := ssv_at l i l[i] (List.getElem?_eq_getElem hil)
      have hsl := ssv_len l
      have fin : ((l.length : Int) - ((i + 1 : Nat) : Int)).toNat < ((l.length : Int) - (i : Int)).toNat := by omega
      have hsuc : fineTo l (i + 1) = (fineTo l i && nameB l[i]) := by
        rw [fineTo, fineTo, ← List.take_append_getElem hil, List.all_append]; simp [Bool.and_assoc]
      have k14 := up (p14 (sA _ (List.getElem_mem hil)) [])
      have hvv := rdS_at hv hil
      subst hvv
      by_cases h3 : (100 : Int) < l[i].length
      · have d3 : decide ((100 : Int) < (l[i].length : Int)) = true := by simpa using h3
        simp (maxSteps := 2000000) (disch := first | omega | (simp only [List.length_append, List.length_cons, List.length_nil, List.length_map] <;> omega)) only [hd, hat, d3, lpK_r, Int.toNat_natCast, flg_bool, sk_idxB, idxB_ro, swp_seq, swp_reg, swp_skip, swp_ret, swp_block, swp_cond, seqK_n, seqK_r, blkK_r, condK_t, evK_some, appK_eq, srun_nil, srun_cons, fin_ret, sk_mv, sk_give, sk_bin, sk_load, sk_lenS, sk_lenL, get_mk, raw_slot, raw_lit, put_some, wb_nil, ev_mv, ev_give, ev_lenS, ev_lenL, bin_lss, bin_gtr, ev_loadE, ro_int, ro_bool, ro_str, ro_ro, List.map_cons, List.map_nil, List.getD_cons_zero, List.getD_cons_succ, List.set_cons_zero, List.set_cons_succ, List.length_nil, List.replicate_succ, List.replicate_zero, List.cons_append, List.nil_append, and_true, Bool.false_eq_true, Option.map_some, ↓reduceIte, Nat.mul_one, gt_iff_lt]
        first | exact ⟨_, .same⟩ | exact ⟨_, .same, rfl⟩ | exact ⟨_, .same, rfl, rfl⟩
      have d3 : decide ((100 : Int) < (l[i].length : Int)) = false := by simpa using h3
      cases hft : fineTo l i with
      | false =>
        rw [hft] at hsuc
        simp (maxSteps := 2000000) (disch := first | omega | (simp only [List.length_append, List.length_cons, List.length_nil, List.length_map] <;> omega)) only [hd, hat, d3, lpK_n, Int.toNat_natCast, flg_bool, flg_int, sk_idxB, idxB_ro, swp_seq, swp_reg, swp_skip, swp_block, swp_cond, seqK_n, blkK_n, condK_t, condK_f, evK_some, appK_eq, grd_t, srun_nil, srun_cons, stepK_grd, sk_mv, sk_give, sk_pick, sk_bin, sk_load, sk_lenS, sk_lenL, get_mk, raw_slot, raw_lit, put_some, wb_nil, ev_mv, ev_give, ev_pick, ev_lenS, ev_lenL, bin_add, bin_lss, bin_gtr, ev_loadE, ro_int, ro_bool, ro_str, ro_ro, List.map_cons, List.map_nil, List.getD_cons_zero, List.getD_cons_succ, List.set_cons_zero, List.set_cons_succ, List.length_nil, List.replicate_succ, List.replicate_zero, List.cons_append, List.nil_append, Bool.false_eq_true, Option.map_some, ↓reduceIte, Nat.mul_one, gt_iff_lt, wrap_i64]
        refine ⟨_, ?_, ⟨i + 1, by omega, rfl⟩, by exact fin⟩
        rw [hsuc]
        refine Forget.of ?_
        repeat first | exact fg_e | refine fg_d ?_ | refine fg_k rfl ?_
      | true =>
        rw [hft, Bool.true_and] at hsuc
        simp (maxSteps := 2000000) (disch := first | omega | (simp only [List.length_append, List.length_cons, List.length_nil, List.length_map] <;> omega)) only [hd, hat, d3, Int.toNat_natCast, exc_int, exc_str, exc_ro, sk_idxB, idxB_ro, swp_seq, swp_reg, swp_skip, swp_block, swp_cond, seqK_n, condK_t, condK_f, evK_some, appK_eq, grd_t, srun_nil, srun_cons, stepK_call, stepK_grd, sk_mv, sk_take, sk_bin, sk_load, sk_lenS, sk_lenL, get_mk, raw_slot, raw_lit, put_some, wb_nil, ev_mv, ev_take, ev_lenS, ev_lenL, bin_lss, bin_gtr, ev_loadE, ro_int, ro_bool, ro_str, ro_ro, got_roo, got_int, got_str, pubs, pubsFrom, List.map_cons, List.map_nil, List.getD_cons_zero, List.getD_cons_succ, List.set_cons_zero, List.set_cons_succ, List.length_nil, List.replicate_succ, List.replicate_zero, List.cons_append, List.nil_append, Bool.false_eq_true, Option.map_some, ↓reduceIte, Nat.mul_one, gt_iff_lt]
        refine callK_intro k14 ?_
        simp (maxSteps := 2000000) (disch := first | omega | (simp only [List.length_append, List.length_cons, List.length_nil, List.length_map] <;> omega)) only [lpK_n, flg_bool, flg_int, swp_reg, seqK_n, blkK_n, evK_some, appK_eq, appC_eq, srun_nil, srun_cons, sk_mv, sk_give, sk_pick, sk_bin, get_mk, raw_slot, raw_lit, put_some, wb_nil, ev_mv, ev_give, ev_pick, bin_add, ro_int, ro_bool, List.map_cons, List.map_nil, List.getD_cons_zero, List.getD_cons_succ, List.set_cons_zero, List.set_cons_succ, Bool.false_eq_true, ↓reduceIte, wrap_i64]
        refine ⟨_, ?_, ⟨i + 1, by omega, rfl⟩, by exact fin⟩
        rw [hsuc]
        refine Forget.of ?_
        repeat first | exact fg_e | refine fg_d ?_ | refine fg_k rfl ?_
    have hd : decide ((i : Int) < (l.length : Int)) = false := by rw [decide_eq_false_iff_not]; omega
    have hfl : fineTo l i = fineL l := by rw [fineTo, List.take_of_length_le (by omega), fineL]
    rw [hfl]
    have k18 := up (p18 sl hv [])
    have hsj : sm (joinP l) := by
      rw [join_eq]
      split
      · exact jn_sm sl
      · exact sm_of (n := 0) (by simp) (by omega)
    have k16 := up (p16 hsj [])
    rw [join_right] at k16
    have k11 := up (p11 ss [])
    have k16s := up (p16 ss [])
    obtain ⟨t1, t2, t3, t4, t5⟩ := rdS_facts (namesV_rdS s)
    have k18s : rightB s = true → O23 18 [namesV s] [] (.str s) [] := fun hr => by
      have := up (p18 (l := namesOf s) (by have := names_smL ss (namesOf s).length; rwa [List.take_length] at this) (namesV_rdS s) [])
      rwa [join_names hr] at this
    have hlen0 : ∀ b, rightB s = b → decide ((0 : Int) < ((namesOf s).length : Int)) = b ∧ (((namesOf s).length : Int) == 0) = !b := by
      rintro b rfl
      rw [right_names]
      refine ⟨by rw [decide_eq_decide]; omega, ?_⟩
      rw [Bool.eq_iff_iff]; simp
    cases hfi : fineL l with
    | false =>
      have hj0 : joinP l = [] := join_wrong hfi
      rw [hj0] at k18 k16
      simp (maxSteps := 2000000) (disch := first | omega | (simp only [List.length_append, List.length_cons, List.length_nil, List.length_map] <;> omega)) only [hd, q1, q2, q3, q5, lpK_e, swp_seq, swp_reg, swp_exit, swp_cond, seqK_n, seqK_e, blkK_e, condK_f, evK_some, appK_eq, srun_nil, srun_cons, stepK_call, sk_mv, sk_bin, sk_lenL, get_mk, raw_slot, put_some, wb_nil, ev_mv, bin_lss, ro_int, pubs, pubsFrom, List.map_cons, List.map_nil, List.getD_cons_zero, List.getD_cons_succ, List.set_cons_zero, List.set_cons_succ, List.length_nil, List.replicate_succ, List.replicate_zero, List.cons_append, List.nil_append, Bool.false_eq_true, ↓reduceIte]
      refine callK_intro k18 ?_
      simp (maxSteps := 2000000) (disch := first | omega | (simp only [List.length_append, List.length_cons, List.length_nil, List.length_map] <;> omega)) only [flg_str, exc_str, swp_seq, swp_reg, seqK_n, evK_some, appK_eq, appC_eq, srun_nil, srun_cons, stepK_call, sk_mv, sk_give, get_mk, raw_slot, put_some, wb_nil, ev_mv, ev_give, ro_bool, ro_str, got_str, pubs, pubsFrom, List.map_cons, List.map_nil, List.getD_cons_zero, List.getD_cons_succ, List.set_cons_zero, List.set_cons_succ, Bool.false_eq_true, ↓reduceIte]
      rw [hfi] at k16
      refine callK_intro k16 ?_
      simp (maxSteps := 2000000) (disch := first | omega | (simp only [List.length_append, List.length_cons, List.length_nil, List.length_map] <;> omega)) only [exc_bool, exc_str, swp_seq, swp_reg, swp_skip, swp_cond, seqK_n, condK_f, evK_some, appK_eq, appC_eq, grd_t, srun_nil, srun_cons, stepK_call, stepK_grd, sk_mv, sk_take, sk_pick, sk_bin, sk_eqB, sk_un, get_mk, raw_slot, raw_lit, put_some, wb_nil, ev_mv, ev_take, ev_pick, ev_eqB, ev_not, bin_neqS, ro_bool, ro_str, got_bool, got_str, pubs, pubsFrom, List.map_cons, List.map_nil, List.getD_cons_zero, List.getD_cons_succ, List.set_cons_zero, List.set_cons_succ, Bool.false_eq_true, ↓reduceIte, Bool.not_true, Bool.not_false, beq_self_eq_true]
      refine callK_intro k11 ?_
      cases hr : rightB s with
      | true =>
        obtain ⟨z1, z2⟩ := hlen0 true hr
        rw [hr] at k16s
        simp (maxSteps := 2000000) (disch := first | omega | (simp only [List.length_append, List.length_cons, List.length_nil, List.length_map] <;> omega)) only [t1, t2, t3, t4, t5, z1, exc_str, swp_seq, swp_reg, seqK_n, evK_some, appK_eq, appC_eq, grd_t, srun_nil, srun_cons, stepK_call, stepK_grd, sk_mv, sk_take, sk_give, sk_bin, sk_lenL, get_mk, raw_slot, raw_lit, put_some, wb_nil, ev_mv, ev_take, ev_give, bin_gtr, ro_bool, got_str, pubs, pubsFrom, List.map_cons, List.map_nil, List.getD_cons_zero, List.getD_cons_succ, List.set_cons_zero, List.set_cons_succ, Bool.false_eq_true, ↓reduceIte, gt_iff_lt]
        refine callK_intro k16s ?_
        simp (maxSteps := 2000000) (disch := first | omega | (simp only [List.length_append, List.length_cons, List.length_nil, List.length_map] <;> omega)) only [t2, t3, t5, z2, exc_bool, evK_some, appK_eq, appC_eq, grd_t, srun_cons, stepK_call, stepK_grd, sk_mv, sk_take, sk_pick, sk_bin, sk_eqB, sk_lenL, get_mk, raw_slot, raw_lit, put_some, wb_nil, ev_mv, ev_take, ev_pick, ev_eqB, bin_eql, ro_bool, got_bool, pubs, pubsFrom, List.map_cons, List.map_nil, List.getD_cons_zero, List.getD_cons_succ, List.set_cons_zero, List.set_cons_succ, Bool.false_eq_true, ↓reduceIte, Bool.not_true, beq_self_eq_true]
        refine callK_intro (k18s hr) ?_
        simp (maxSteps := 2000000) (disch := first | omega | (simp only [List.length_append, List.length_cons, List.length_nil, List.length_map] <;> omega)) only [hbl, flg_bool, exc_str, swp_ret, seqK_n, evK_some, appK_eq, appC_eq, grd_t, srun_nil, srun_cons, stepK_grd, fin_ret, sk_take, sk_give, sk_pick, sk_bin, get_mk, raw_slot, raw_lit, put_some, wb_nil, ev_take, ev_give, ev_pick, bin_eqlS, ro_bool, got_str, List.map_cons, List.map_nil, List.getD_cons_zero, List.getD_cons_succ, List.set_cons_zero, List.set_cons_succ, List.length_nil, and_true, Bool.false_eq_true, ↓reduceIte]
        first | exact ⟨_, .same⟩ | exact ⟨_, .same, rfl⟩ | exact ⟨_, .same, rfl, rfl⟩
      | false =>
        obtain ⟨z1, z2⟩ := hlen0 false hr
        rw [hr] at k16s
        simp (maxSteps := 2000000) (disch := first | omega | (simp only [List.length_append, List.length_cons, List.length_nil, List.length_map] <;> omega)) only [t1, t2, t3, t4, t5, z1, exc_str, swp_seq, swp_reg, seqK_n, evK_some, appK_eq, appC_eq, grd_t, srun_nil, srun_cons, stepK_call, stepK_grd, sk_mv, sk_take, sk_give, sk_bin, sk_lenL, get_mk, raw_slot, raw_lit, put_some, wb_nil, ev_mv, ev_take, ev_give, bin_gtr, ro_bool, got_str, pubs, pubsFrom, List.map_cons, List.map_nil, List.getD_cons_zero, List.getD_cons_succ, List.set_cons_zero, List.set_cons_succ, Bool.false_eq_true, ↓reduceIte, gt_iff_lt]
        refine callK_intro k16s ?_
        simp (maxSteps := 2000000) (disch := first | omega | (simp only [List.length_append, List.length_cons, List.length_nil, List.length_map] <;> omega)) only [t2, t3, t5, z2, flg_bool, exc_bool, swp_ret, seqK_n, evK_some, appK_eq, appC_eq, grd_t, srun_nil, srun_cons, stepK_grd, fin_ret, sk_mv, sk_take, sk_give, sk_pick, sk_bin, sk_eqB, sk_lenL, get_mk, raw_slot, raw_lit, put_some, wb_nil, ev_mv, ev_take, ev_give, ev_pick, ev_eqB, bin_eql, ro_bool, got_bool, List.map_cons, List.map_nil, List.getD_cons_zero, List.getD_cons_succ, List.set_cons_zero, List.set_cons_succ, List.length_nil, and_true, Bool.false_eq_true, ↓reduceIte, reduceCtorEq, Bool.not_false, beq_self_eq_true]
        first | exact ⟨_, .same⟩ | exact ⟨_, .same, rfl⟩ | exact ⟨_, .same, rfl, rfl⟩
    | true =>
      have hj0 : joinP l = jn l := join_fine hfi
      have hnl : namesOf (jn l) = l := by rw [names_right (fine_right hfi), fine_spl hfi]
      have k11j := up (p11 (jn_sm sl) [])
      have k12 : O23 12 [namesV (jn l), v] [] (.bool true) [] := by
        have hrd := namesV_rdS (jn l)
        rw [hnl] at hrd
        have := up (p12 hrd hv (by omega) [])
        rwa [decide_eq_true rfl] at this
      obtain ⟨j1, j2, j3, j4, j5⟩ := rdS_facts (namesV_rdS (jn l))
      rw [hj0] at k18 k16
      rw [hfi] at k16
      simp (maxSteps := 2000000) (disch := first | omega | (simp only [List.length_append, List.length_cons, List.length_nil, List.length_map] <;> omega)) only [hd, q1, q2, q3, q5, lpK_e, swp_seq, swp_reg, swp_exit, swp_cond, seqK_n, seqK_e, blkK_e, condK_f, evK_some, appK_eq, srun_nil, srun_cons, stepK_call, sk_mv, sk_bin, sk_lenL, get_mk, raw_slot, put_some, wb_nil, ev_mv, bin_lss, ro_int, pubs, pubsFrom, List.map_cons, List.map_nil, List.getD_cons_zero, List.getD_cons_succ, List.set_cons_zero, List.set_cons_succ, List.length_nil, List.replicate_succ, List.replicate_zero, List.cons_append, List.nil_append, Bool.false_eq_true, ↓reduceIte]
      refine callK_intro k18 ?_
      simp (maxSteps := 2000000) (disch := first | omega | (simp only [List.length_append, List.length_cons, List.length_nil, List.length_map] <;> omega)) only [flg_str, exc_str, swp_seq, swp_reg, seqK_n, evK_some, appK_eq, appC_eq, srun_nil, srun_cons, stepK_call, sk_mv, sk_give, get_mk, raw_slot, put_some, wb_nil, ev_mv, ev_give, ro_bool, ro_str, got_str, pubs, pubsFrom, List.map_cons, List.map_nil, List.getD_cons_zero, List.getD_cons_succ, List.set_cons_zero, List.set_cons_succ, Bool.false_eq_true, ↓reduceIte]
      refine callK_intro k16 ?_
      simp (maxSteps := 2000000) (disch := first | omega | (simp only [List.length_append, List.length_cons, List.length_nil, List.length_map] <;> omega)) only [exc_bool, exc_str, evK_some, appK_eq, appC_eq, grd_t, srun_cons, stepK_call, stepK_grd, sk_mv, sk_take, sk_pick, sk_eqB, sk_un, get_mk, raw_slot, raw_lit, put_some, wb_nil, ev_mv, ev_take, ev_pick, ev_eqB, ev_not, ro_bool, got_bool, got_str, pubs, pubsFrom, List.map_cons, List.map_nil, List.getD_cons_zero, List.getD_cons_succ, List.set_cons_zero, List.set_cons_succ, Bool.false_eq_true, ↓reduceIte, Bool.not_true, beq_self_eq_true]
      refine callK_intro k11j ?_
      simp (maxSteps := 2000000) (disch := first | omega | (simp only [List.length_append, List.length_cons, List.length_nil, List.length_map] <;> omega)) only [j2, j3, q2, q3, evK_some, appK_eq, appC_eq, grd_t, srun_cons, stepK_call, stepK_grd, sk_take, get_mk, raw_slot, put_some, wb_nil, ev_take, pubs, pubsFrom, List.map_cons, List.map_nil, List.getD_cons_zero, List.getD_cons_succ, List.set_cons_zero, List.set_cons_succ, Bool.false_eq_true, ↓reduceIte]
      refine callK_intro k12 ?_
      simp (maxSteps := 2000000) (disch := first | omega | (simp only [List.length_append, List.length_cons, List.length_nil, List.length_map] <;> omega)) only [exc_str, swp_seq, swp_reg, swp_skip, swp_cond, seqK_n, condK_f, evK_some, appK_eq, appC_eq, grd_t, srun_nil, srun_cons, stepK_call, stepK_grd, sk_mv, sk_pick, sk_un, get_mk, raw_slot, raw_lit, put_some, wb_nil, ev_mv, ev_pick, ev_not, ro_bool, ro_str, got_str, pubs, pubsFrom, List.map_cons, List.map_nil, List.getD_cons_zero, List.getD_cons_succ, List.set_cons_zero, List.set_cons_succ, Bool.false_eq_true, ↓reduceIte, Bool.not_true]
      refine callK_intro k11 ?_
      cases hr : rightB s with
      | true =>
        obtain ⟨z1, z2⟩ := hlen0 true hr
        rw [hr] at k16s
        simp (maxSteps := 2000000) (disch := first | omega | (simp only [List.length_append, List.length_cons, List.length_nil, List.length_map] <;> omega)) only [t1, t2, t3, t4, t5, z1, exc_str, swp_seq, swp_reg, seqK_n, evK_some, appK_eq, appC_eq, grd_t, srun_nil, srun_cons, stepK_call, stepK_grd, sk_mv, sk_take, sk_give, sk_bin, sk_lenL, get_mk, raw_slot, raw_lit, put_some, wb_nil, ev_mv, ev_take, ev_give, bin_gtr, ro_bool, got_str, pubs, pubsFrom, List.map_cons, List.map_nil, List.getD_cons_zero, List.getD_cons_succ, List.set_cons_zero, List.set_cons_succ, Bool.false_eq_true, ↓reduceIte, gt_iff_lt]
        refine callK_intro k16s ?_
        simp (maxSteps := 2000000) (disch := first | omega | (simp only [List.length_append, List.length_cons, List.length_nil, List.length_map] <;> omega)) only [t2, t3, t5, z2, exc_bool, evK_some, appK_eq, appC_eq, grd_t, srun_cons, stepK_call, stepK_grd, sk_mv, sk_take, sk_pick, sk_bin, sk_eqB, sk_lenL, get_mk, raw_slot, raw_lit, put_some, wb_nil, ev_mv, ev_take, ev_pick, ev_eqB, bin_eql, ro_bool, got_bool, pubs, pubsFrom, List.map_cons, List.map_nil, List.getD_cons_zero, List.getD_cons_succ, List.set_cons_zero, List.set_cons_succ, Bool.false_eq_true, ↓reduceIte, Bool.not_true, beq_self_eq_true]
        refine callK_intro (k18s hr) ?_
        simp (maxSteps := 2000000) (disch := first | omega | (simp only [List.length_append, List.length_cons, List.length_nil, List.length_map] <;> omega)) only [hbl, flg_bool, exc_str, swp_ret, seqK_n, evK_some, appK_eq, appC_eq, grd_t, srun_nil, srun_cons, stepK_grd, fin_ret, sk_take, sk_give, sk_pick, sk_bin, get_mk, raw_slot, raw_lit, put_some, wb_nil, ev_take, ev_give, ev_pick, bin_eqlS, ro_bool, got_str, List.map_cons, List.map_nil, List.getD_cons_zero, List.getD_cons_succ, List.set_cons_zero, List.set_cons_succ, List.length_nil, and_true, Bool.false_eq_true, ↓reduceIte]
        first | exact ⟨_, .same⟩ | exact ⟨_, .same, rfl⟩ | exact ⟨_, .same, rfl, rfl⟩
      | false =>
        obtain ⟨z1, z2⟩ := hlen0 false hr
        rw [hr] at k16s
        simp (maxSteps := 2000000) (disch := first | omega | (simp only [List.length_append, List.length_cons, List.length_nil, List.length_map] <;> omega)) only [t1, t2, t3, t4, t5, z1, exc_str, swp_seq, swp_reg, seqK_n, evK_some, appK_eq, appC_eq, grd_t, srun_nil, srun_cons, stepK_call, stepK_grd, sk_mv, sk_take, sk_give, sk_bin, sk_lenL, get_mk, raw_slot, raw_lit, put_some, wb_nil, ev_mv, ev_take, ev_give, bin_gtr, ro_bool, got_str, pubs, pubsFrom, List.map_cons, List.map_nil, List.getD_cons_zero, List.getD_cons_succ, List.set_cons_zero, List.set_cons_succ, Bool.false_eq_true, ↓reduceIte, gt_iff_lt]
        refine callK_intro k16s ?_
        simp (maxSteps := 2000000) (disch := first | omega | (simp only [List.length_append, List.length_cons, List.length_nil, List.length_map] <;> omega)) only [t2, t3, t5, z2, flg_bool, exc_bool, swp_ret, seqK_n, evK_some, appK_eq, appC_eq, grd_t, srun_nil, srun_cons, stepK_grd, fin_ret, sk_mv, sk_take, sk_give, sk_pick, sk_bin, sk_eqB, sk_lenL, get_mk, raw_slot, raw_lit, put_some, wb_nil, ev_mv, ev_take, ev_give, ev_pick, ev_eqB, bin_eql, ro_bool, got_bool, List.map_cons, List.map_nil, List.getD_cons_zero, List.getD_cons_succ, List.set_cons_zero, List.set_cons_succ, List.length_nil, and_true, Bool.false_eq_true, ↓reduceIte, reduceCtorEq, Bool.not_false, beq_self_eq_true]
        first | exact ⟨_, .same⟩ | exact ⟨_, .same, rfl⟩ | exact ⟨_, .same, rfl, rfl⟩
end Go.Sh.F
