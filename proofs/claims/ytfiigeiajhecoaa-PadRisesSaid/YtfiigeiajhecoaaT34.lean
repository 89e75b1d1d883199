/-
  PadBack, in the shadow machine.
-/
import Derived.Test.YtfiigeiajhecoaaT33
set_option linter.unusedSimpArgs false
set_option linter.unusedVariables false
namespace Go.Sh.F
theorem text_pad {s Z : List UInt8} (hs : s.length ≤ 16384) : (textF ⟨strB s ++ Z, 0, 0⟩ ((strB s ++ Z).length : Nat)).1 = s := by
  have hl := strB_len' hs
  have := (text1 (l := strB s ++ Z) (p := 0) (s := s) (R := Z) (most := ((strB s ++ Z).length : Nat)) rfl hs (by rw [List.length_append]; omega) (Nat.zero_le _)).1
  rw [show (((0 : Nat) : Nat)) = 0 from rfl] at this
  rw [this]
theorem padF_ok {s : List UInt8} (hs : s.length ≤ 5116) : ∃ (p : List UInt8) (k : Nat), padF s = (p, 0) ∧ p = strB s ++ zer k ∧ (p.length : Int) = sizeF (bucketF s.length) := by
  obtain ⟨z, hz, z1, z2, z3⟩ := bucket_size hs
  have hl := strB_len' (s := s) (by omega)
  refine ⟨_, z - (strB s).length, ?_, rfl, ?_⟩
  · unfold padF; rw [if_pos hs, hz]; rfl
  · rw [hz, List.length_append, zer_len]; omega
theorem padF_no {s : List UInt8} (hs : ¬ s.length ≤ 5116) : padF s = ([], 5) := by unfold padF; rw [if_neg hs]
theorem stripF_pad {s p : List UInt8} {k : Nat} (hs : s.length ≤ 5116) (hp : padF s = (p, 0)) (hk : p = strB s ++ zer k) : stripF p = (s, 0) := by
  have h := text_pad (s := s) (Z := zer k) (by omega)
  unfold stripF
  rw [hk, h, if_pos (by rw [hp, hk])]
theorem bucket_cases (n : Int) : (n < 0 ∧ bucketF n = -1) ∨ (0 ≤ n ∧ n ≤ 76 ∧ bucketF n = 0) ∨ (77 ≤ n ∧ n ≤ 316 ∧ bucketF n = 1) ∨ (317 ≤ n ∧ n ≤ 1276 ∧ bucketF n = 2) ∨ (1277 ≤ n ∧ n ≤ 5116 ∧ bucketF n = 3) ∨ (5117 ≤ n ∧ bucketF n = -1) := by
  unfold bucketF
  by_cases h0 : n < 0
  · exact .inl ⟨h0, if_pos h0⟩
  rw [if_neg h0]
  by_cases h1 : n ≤ 76
  · exact .inr (.inl ⟨by omega, h1, if_pos h1⟩)
  rw [if_neg h1]
  by_cases h2 : n ≤ 316
  · exact .inr (.inr (.inl ⟨by omega, h2, if_pos h2⟩))
  rw [if_neg h2]
  by_cases h3 : n ≤ 1276
  · exact .inr (.inr (.inr (.inl ⟨by omega, h3, if_pos h3⟩)))
  rw [if_neg h3]
  by_cases h4 : n ≤ 5116
  · exact .inr (.inr (.inr (.inr (.inl ⟨by omega, h4, if_pos h4⟩))))
  rw [if_neg h4]
  exact .inr (.inr (.inr (.inr (.inr ⟨by omega, rfl⟩))))
theorem size_inj {n m : Int} (hn : 0 ≤ bucketF n) (hm : 0 ≤ bucketF m) : (sizeF (bucketF n) == sizeF (bucketF m)) = (bucketF n == bucketF m) := by
  rcases bucket_cases n with ⟨_, h⟩ | ⟨_, _, h⟩ | ⟨_, _, h⟩ | ⟨_, _, h⟩ | ⟨_, _, h⟩ | ⟨_, h⟩ <;> rcases bucket_cases m with ⟨_, h'⟩ | ⟨_, _, h'⟩ | ⟨_, _, h'⟩ | ⟨_, _, h'⟩ | ⟨_, _, h'⟩ | ⟨_, h'⟩ <;> rw [h] at hn ⊢ <;> rw [h'] at hm ⊢ <;> first | rfl | omega
set_option maxHeartbeats 1000000 in
theorem fBack (s t : List UInt8) (hs : s.length ≤ 1073741824) (ht : t.length ≤ 1073741824) : swpF O42 sf6 [.str s, .str t] [] (fun r _ => r = .bool true) := by
  simp (maxSteps := 2000000) (disch := first | omega | (simp only [List.length_append, List.length_cons, List.length_nil, List.length_map] <;> omega)) only [sf6, flg_bool, swp_seq, swp_reg, seqK_n, evK_some, appK_eq, srun_nil, srun_cons, stepK_call, swpF_eq, sk_give, raw_lit, put_some, wb_nil, ev_give, ro_bool, pubs, pubsFrom, List.map_cons, List.map_nil, List.set_cons_zero, List.set_cons_succ, List.length_cons, List.length_nil, List.replicate_succ, List.replicate_zero, List.cons_append, List.nil_append, Nat.reduceAdd, Nat.reduceSub, Bool.false_eq_true, ↓reduceIte, Nat.zero_add]
  refine callK_intro y34 ?_
  by_cases h1 : s.length ≤ 6000
  case neg =>
    have d1 : decide ((6000 : Int) < s.length) = true := by simp; omega
    simp (maxSteps := 2000000) (disch := first | omega | (simp only [List.length_append, List.length_cons, List.length_nil, List.length_map] <;> omega)) only [d1, grd_t, ev_pick, flg_bool, swp_seq, swp_reg, swp_ret, swp_cond, seqK_n, seqK_r, condK_t, evK_some, appK_eq, appC_eq, grd_t, srun_nil, srun_cons, stepK_grd, fin_ret, sk_mv, sk_give, sk_pick, sk_bin, sk_lenS, get_mk, raw_slot, raw_lit, put_some, wb_nil, ev_mv, ev_give, ev_pick, ev_lenS, bin_gtr, ro_bool, ro_str, List.map_cons, List.map_nil, List.getD_cons_zero, List.getD_cons_succ, List.set_cons_zero, List.set_cons_succ, List.length_nil, and_true, Bool.false_eq_true, ↓reduceIte, reduceCtorEq, gt_iff_lt]
    exact ⟨_, .same⟩
  have d1 : decide ((6000 : Int) < s.length) = false := by simp; omega
  by_cases h2 : t.length ≤ 6000
  case neg =>
    have d2 : decide ((6000 : Int) < t.length) = true := by simp; omega
    simp (maxSteps := 2000000) (disch := first | omega | (simp only [List.length_append, List.length_cons, List.length_nil, List.length_map] <;> omega)) only [d1, d2, grd_t, ev_pick, flg_bool, exc_str, swp_seq, swp_reg, swp_ret, swp_cond, seqK_n, seqK_r, condK_t, evK_some, appK_eq, appC_eq, grd_t, srun_nil, srun_cons, stepK_grd, fin_ret, sk_mv, sk_take, sk_give, sk_pick, sk_bin, sk_lenS, get_mk, raw_slot, raw_lit, put_some, wb_nil, ev_mv, ev_take, ev_give, ev_pick, ev_lenS, bin_gtr, ro_bool, ro_str, got_str, List.map_cons, List.map_nil, List.getD_cons_zero, List.getD_cons_succ, List.set_cons_zero, List.set_cons_succ, List.length_nil, and_true, Bool.false_eq_true, ↓reduceIte, gt_iff_lt]
    exact ⟨_, .same⟩
  have d2 : decide ((6000 : Int) < t.length) = false := by simp; omega
  simp (maxSteps := 2000000) (disch := first | omega | (simp only [List.length_append, List.length_cons, List.length_nil, List.length_map] <;> omega)) only [d1, d2, grd_t, ev_pick, flg_bool, exc_str, swp_seq, swp_reg, swp_skip, swp_cond, seqK_n, condK_f, evK_some, appK_eq, appC_eq, grd_t, srun_nil, srun_cons, stepK_call, stepK_grd, sk_mv, sk_take, sk_give, sk_pick, sk_bin, sk_lenS, get_mk, raw_slot, raw_lit, put_some, wb_nil, ev_mv, ev_take, ev_give, ev_pick, ev_lenS, bin_gtr, ro_bool, ro_str, got_str, pubs, pubsFrom, List.map_cons, List.map_nil, List.getD_cons_zero, List.getD_cons_succ, List.set_cons_zero, List.set_cons_succ, Bool.false_eq_true, ↓reduceIte, gt_iff_lt]
  by_cases h3 : s.length ≤ 5116
  case neg =>
    refine callK_intro (.inl (y35 okSt_nil hs (padF_no h3))) ?_
    simp (maxSteps := 2000000) (disch := first | omega | (simp only [List.length_append, List.length_cons, List.length_nil, List.length_map] <;> omega)) only [flg_int, flg_str, exc_str, swp_seq, swp_reg, seqK_n, evK_some, appK_eq, appC_eq, srun_nil, srun_cons, stepK_call, sk_mv, sk_give, sk_ext, get_mk, raw_slot, put_some, wb_nil, ev_mv, ev_give, ev_ext, ro_int, ro_str, ro_tup, ro2_int, ro2_str, got_str, pubs, pubsFrom, List.map_cons, List.map_nil, List.getD_cons_zero, List.getD_cons_succ, List.set_cons_zero, List.set_cons_succ, List.getElem?_cons_zero, List.getElem?_cons_succ, Bool.false_eq_true, Option.map_some, ↓reduceIte]
    obtain ⟨⟨q, f⟩, hq⟩ : ∃ y, y = padF t := ⟨_, rfl⟩
    refine callK_intro (.inl (y35 okSt_nil ht hq.symm)) ?_
    simp (maxSteps := 2000000) (disch := first | omega | (simp only [List.length_append, List.length_cons, List.length_nil, List.length_map] <;> omega)) only [flg_int, flg_str, exc_int, swp_seq, swp_reg, seqK_n, evK_some, appK_eq, appC_eq, srun_nil, srun_cons, stepK_call, sk_mv, sk_give, sk_bin, sk_lenS, sk_ext, get_mk, raw_slot, raw_lit, put_some, wb_nil, ev_mv, ev_give, ev_lenS, ev_ext, bin_eql, ro_int, ro_str, ro_tup, ro2_int, ro2_str, got_int, pubs, pubsFrom, List.map_cons, List.map_nil, List.getD_cons_zero, List.getD_cons_succ, List.set_cons_zero, List.set_cons_succ, List.getElem?_cons_zero, List.getElem?_cons_succ, Bool.false_eq_true, Option.map_some, ↓reduceIte, Int.reduceBEq]
    refine callK_intro (.inl (y39 okSt_nil _)) ?_
    rw [bucket_none (by omega)]
    simp (maxSteps := 2000000) (disch := first | omega | (simp only [List.length_append, List.length_cons, List.length_nil, List.length_map] <;> omega)) only [grd_t, ev_pick, flg_bool, exc_bool, exc_int, exc_str, swp_seq, swp_reg, swp_skip, swp_ret, swp_cond, seqK_n, seqK_r, condK_t, condK_f, evK_some, appK_eq, appC_eq, grd_t, srun_nil, srun_cons, stepK_grd, fin_ret, sk_mv, sk_take, sk_give, sk_pick, sk_bin, sk_eqB, get_mk, raw_slot, raw_lit, put_some, wb_nil, ev_mv, ev_take, ev_give, ev_pick, ev_eqB, bin_neq, bin_geq, bin_neqS, ro_int, ro_bool, got_int, got_bool, got_str, List.map_cons, List.map_nil, List.getD_cons_zero, List.getD_cons_succ, List.set_cons_zero, List.set_cons_succ, List.length_nil, and_true, Bool.false_eq_true, ↓reduceIte, decide_false, reduceCtorEq, Bool.not_true, beq_self_eq_true, bne_self_eq_false, Int.reduceBNe, ge_iff_le, Int.reduceLE, Int.reduceNeg]
    exact ⟨_, .same⟩
  obtain ⟨p, k, hp, hpk, hpl⟩ := padF_ok h3
  obtain ⟨z, hz, z1, z2, z3⟩ := bucket_size h3
  have d3 : decide (0 ≤ bucketF s.length) = true := by simp; omega
  have hst := stripF_pad h3 hp hpk
  have hpz : p.length ≤ 5120 := by omega
  refine callK_intro (.inl (y35 okSt_nil hs hp)) ?_
  simp (maxSteps := 2000000) (disch := first | omega | (simp only [List.length_append, List.length_cons, List.length_nil, List.length_map] <;> omega)) only [flg_int, flg_str, exc_str, swp_seq, swp_reg, seqK_n, evK_some, appK_eq, appC_eq, srun_nil, srun_cons, stepK_call, sk_mv, sk_give, sk_ext, get_mk, raw_slot, put_some, wb_nil, ev_mv, ev_give, ev_ext, ro_int, ro_str, ro_tup, ro2_int, ro2_str, got_str, pubs, pubsFrom, List.map_cons, List.map_nil, List.getD_cons_zero, List.getD_cons_succ, List.set_cons_zero, List.set_cons_succ, List.getElem?_cons_zero, List.getElem?_cons_succ, Bool.false_eq_true, Option.map_some, ↓reduceIte]
  by_cases h4 : t.length ≤ 5116
  case neg =>
    refine callK_intro (.inl (y35 okSt_nil ht (padF_no h4))) ?_
    simp (maxSteps := 2000000) (disch := first | omega | (simp only [List.length_append, List.length_cons, List.length_nil, List.length_map] <;> omega)) only [flg_int, flg_str, exc_int, swp_seq, swp_reg, seqK_n, evK_some, appK_eq, appC_eq, srun_nil, srun_cons, stepK_call, sk_mv, sk_give, sk_bin, sk_lenS, sk_ext, get_mk, raw_slot, raw_lit, put_some, wb_nil, ev_mv, ev_give, ev_lenS, ev_ext, bin_eql, ro_int, ro_str, ro_tup, ro2_int, ro2_str, got_int, pubs, pubsFrom, List.map_cons, List.map_nil, List.getD_cons_zero, List.getD_cons_succ, List.set_cons_zero, List.set_cons_succ, List.getElem?_cons_zero, List.getElem?_cons_succ, Bool.false_eq_true, Option.map_some, ↓reduceIte, beq_self_eq_true]
    refine callK_intro (.inl (y39 okSt_nil _)) ?_
    simp (maxSteps := 2000000) (disch := first | omega | (simp only [List.length_append, List.length_cons, List.length_nil, List.length_map] <;> omega)) only [d3, grd_t, ev_pick, flg_bool, exc_bool, exc_int, grd_s, swp_seq, swp_reg, swp_skip, swp_ret, swp_cond, seqK_n, seqK_r, condK_t, condK_f, evK_some, appK_eq, appC_eq, grd_t, srun_nil, srun_cons, stepK_grd, fin_ret, sk_mv, sk_take, sk_give, sk_pick, sk_bin, sk_eqB, get_mk, raw_slot, raw_lit, put_some, wb_nil, ev_mv, ev_take, ev_give, ev_pick, ev_eqB, bin_neq, bin_geq, ro_int, ro_bool, got_int, got_bool, List.map_cons, List.map_nil, List.getD_cons_zero, List.getD_cons_succ, List.set_cons_zero, List.set_cons_succ, List.length_nil, and_true, Bool.false_eq_true, ↓reduceIte, Bool.not_true, beq_self_eq_true, bne_self_eq_false, Int.reduceBNe, ge_iff_le]
    exact ⟨_, .same⟩
  obtain ⟨q, k', hq, hqk, hql⟩ := padF_ok h4
  obtain ⟨z', hz', z1', z2', z3'⟩ := bucket_size h4
  have hst' := stripF_pad h4 hq hqk
  have e1 : (s == s) = true := by simp
  have e2 : ((p.length : Int) == sizeF (bucketF s.length)) = true := by rw [hpl]; simp
  have e3 : ((p.length : Int) == (q.length : Int)) = (bucketF s.length == bucketF t.length) := by rw [hpl, hql]; exact size_inj z3 z3'
  have e4 : (p == q) = (s == t) := by
    by_cases h : s = t
    · subst h
      rw [hp] at hq
      rw [(Prod.mk.inj hq).1]
      simp
    · have : p ≠ q := by
        intro hpq
        subst hpq
        rw [hst] at hst'
        exact h (Prod.mk.inj hst').1
      rw [beq_eq_false_iff_ne.2 this, beq_eq_false_iff_ne.2 h]
  have e5 : ((bucketF s.length == bucketF t.length) == (bucketF s.length == bucketF t.length)) = true := by simp
  have e6 : ((s == t) == (s == t)) = true := by simp
  refine callK_intro (.inl (y35 okSt_nil ht hq)) ?_
  simp (maxSteps := 2000000) (disch := first | omega | (simp only [List.length_append, List.length_cons, List.length_nil, List.length_map] <;> omega)) only [flg_int, flg_str, exc_int, swp_seq, swp_reg, seqK_n, evK_some, appK_eq, appC_eq, srun_nil, srun_cons, stepK_call, sk_mv, sk_give, sk_bin, sk_lenS, sk_ext, get_mk, raw_slot, raw_lit, put_some, wb_nil, ev_mv, ev_give, ev_lenS, ev_ext, bin_eql, ro_int, ro_str, ro_tup, ro2_int, ro2_str, got_int, pubs, pubsFrom, List.map_cons, List.map_nil, List.getD_cons_zero, List.getD_cons_succ, List.set_cons_zero, List.set_cons_succ, List.getElem?_cons_zero, List.getElem?_cons_succ, Bool.false_eq_true, Option.map_some, ↓reduceIte, beq_self_eq_true]
  refine callK_intro (.inl (y39 okSt_nil _)) ?_
  simp (maxSteps := 2000000) (disch := first | omega | (simp only [List.length_append, List.length_cons, List.length_nil, List.length_map] <;> omega)) only [d3, grd_t, ev_pick, exc_bool, exc_int, exc_str, grd_s, swp_seq, swp_reg, swp_skip, swp_cond, seqK_n, condK_f, evK_some, appK_eq, appC_eq, grd_t, srun_nil, srun_cons, stepK_call, stepK_grd, sk_mv, sk_take, sk_pick, sk_bin, sk_eqB, get_mk, raw_slot, raw_lit, put_some, wb_nil, ev_mv, ev_take, ev_pick, ev_eqB, bin_neq, bin_geq, ro_int, ro_bool, ro_str, got_int, got_bool, got_str, pubs, pubsFrom, List.map_cons, List.map_nil, List.getD_cons_zero, List.getD_cons_succ, List.set_cons_zero, List.set_cons_succ, Bool.false_eq_true, ↓reduceIte, Bool.not_true, beq_self_eq_true, bne_self_eq_false, ge_iff_le]
  refine callK_intro (.inl (y37 okSt_nil (by omega) hst)) ?_
  simp (maxSteps := 2000000) (disch := first | omega | (simp only [List.length_append, List.length_cons, List.length_nil, List.length_map] <;> omega)) only [e1, grd_t, ev_pick, flg_int, flg_str, exc_int, exc_str, swp_seq, swp_reg, seqK_n, evK_some, appK_eq, appC_eq, grd_t, srun_nil, srun_cons, stepK_call, stepK_grd, sk_mv, sk_take, sk_give, sk_pick, sk_bin, sk_lenS, sk_ext, get_mk, raw_slot, raw_lit, put_some, wb_nil, ev_mv, ev_take, ev_give, ev_pick, ev_lenS, ev_ext, bin_eql, bin_eqlS, ro_int, ro_bool, ro_str, ro_tup, ro2_int, ro2_str, got_int, got_str, pubs, pubsFrom, List.map_cons, List.map_nil, List.getD_cons_zero, List.getD_cons_succ, List.set_cons_zero, List.set_cons_succ, List.getElem?_cons_zero, List.getElem?_cons_succ, Bool.false_eq_true, Option.map_some, ↓reduceIte, beq_self_eq_true]
  refine callK_intro (.inl (y39 okSt_nil _)) ?_
  simp (maxSteps := 2000000) (disch := first | omega | (simp only [List.length_append, List.length_cons, List.length_nil, List.length_map] <;> omega)) only [grd_t, exc_int, appC_eq, grd_t, srun_cons, stepK_call, stepK_grd, get_mk, raw_slot, put_some, wb_nil, got_int, pubs, pubsFrom, List.map_cons, List.map_nil, List.getD_cons_zero, List.getD_cons_succ, List.set_cons_zero, List.set_cons_succ, Bool.false_eq_true, ↓reduceIte]
  refine callK_intro (.inl (y41 okSt_nil _)) ?_
  simp (maxSteps := 2000000) (disch := first | omega | (simp only [List.length_append, List.length_cons, List.length_nil, List.length_map] <;> omega)) only [e2, e3, grd_t, ev_pick, exc_int, exc_str, evK_some, appK_eq, appC_eq, grd_t, srun_cons, stepK_call, stepK_grd, sk_mv, sk_take, sk_pick, sk_bin, sk_lenS, get_mk, raw_slot, raw_lit, put_some, wb_nil, ev_mv, ev_take, ev_pick, ev_lenS, bin_eql, ro_bool, got_int, got_str, pubs, pubsFrom, List.map_cons, List.map_nil, List.getD_cons_zero, List.getD_cons_succ, List.set_cons_zero, List.set_cons_succ, Bool.false_eq_true, ↓reduceIte]
  refine callK_intro (.inl (y39 okSt_nil _)) ?_
  simp (maxSteps := 2000000) (disch := first | omega | (simp only [List.length_append, List.length_cons, List.length_nil, List.length_map] <;> omega)) only [grd_t, exc_int, exc_str, evK_some, appK_eq, appC_eq, grd_t, srun_cons, stepK_call, stepK_grd, sk_take, sk_lenS, get_mk, raw_slot, put_some, wb_nil, ev_take, ev_lenS, got_int, got_str, pubs, pubsFrom, List.map_cons, List.map_nil, List.getD_cons_zero, List.getD_cons_succ, List.set_cons_zero, List.set_cons_succ, Bool.false_eq_true, ↓reduceIte]
  refine callK_intro (.inl (y39 okSt_nil _)) ?_
  simp (maxSteps := 2000000) (disch := first | omega | (simp only [List.length_append, List.length_cons, List.length_nil, List.length_map] <;> omega)) only [e4, e5, e6, grd_t, ev_pick, flg_bool, exc_str, swp_ret, seqK_n, evK_some, appK_eq, appC_eq, grd_t, srun_nil, srun_cons, stepK_grd, fin_ret, sk_mv, sk_take, sk_give, sk_pick, sk_bin, sk_eqB, get_mk, raw_slot, raw_lit, put_some, wb_nil, ev_mv, ev_take, ev_give, ev_pick, ev_eqB, bin_eql, bin_eqlS, ro_bool, got_str, List.map_cons, List.map_nil, List.getD_cons_zero, List.getD_cons_succ, List.set_cons_zero, List.set_cons_succ, List.length_nil, and_true, Bool.false_eq_true, ↓reduceIte]
  exact ⟨_, .same⟩
end Go.Sh.F
