/-
  PathSorts, PathBytes, in the shadow machine.
-/
import Derived.Test.YtdbpcmapcmchbaaDoorQ10
set_option linter.unusedSimpArgs false
set_option linter.unusedVariables false
namespace Go.Sh.F
open Go.PathLaw Go.Proofs
/-- A row's part, whichever way it lies. -/
theorem rdS_hi {v : SV} {l : List (List UInt8)} (h : rdS v l) {n : Nat} (hn : n ≤ l.length) (hl : l ≠ []) (st : List Ob) : ev st (.slcL 1 false true false) [v, .int .i64 (n : Int)] = some (.sl (ssv (l.take n)) n .ro, [], st) := by
  rw [rdS_at h (List.length_pos_iff.2 hl), slcL_hi_ro (by omega) (by omega) (by rw [ssv_len]; omega)]
  simp [ssv_take]
theorem rdS_lo {v : SV} {l : List (List UInt8)} (h : rdS v l) {n : Nat} (hn : n ≤ l.length) (hl : l ≠ []) (st : List Ob) : ev st (.slcL 1 true false false) [v, .int .i64 (n : Int)] = some (.sl (ssv (l.drop n)) (l.length - n) .ro, [], st) := by
  rw [rdS_at h (List.length_pos_iff.2 hl), slcL_lo_ro (by omega) (by omega) (by rw [ssv_len]; omega)]
  have e : ((l.length : Int) - (n : Int)).toNat = l.length - n := by omega
  simp [ssv_drop, e]
set_option maxHeartbeats 16000000 in
theorem fSorts (v : SV) (l : List (List UInt8)) (a : Int) (hv : rdS v l) (hl : l.length ≤ 1048576) (hf : l.flatten.length ≤ 1048576) : swpF O23 sf8 [v, .int .i64 a] [] (fun r _ => r = .bool true) := by
  obtain ⟨q1, q2, q3, q4, q5⟩ := rdS_facts hv
  have sA : smA l := ⟨fun x hx => sm_of (mem_flat l x hx) (by omega), by omega⟩
  have k22 := up (p22 sA hv [])
  simp (maxSteps := 2000000) (disch := first | omega | (simp only [List.length_append, List.length_cons, List.length_nil, List.length_map] <;> omega)) only [sf8, flg_bool, swp_seq, swp_reg, seqK_n, evK_some, appK_eq, srun_nil, srun_cons, stepK_call, swpF_eq, sk_give, raw_lit, put_some, wb_nil, ev_give, ro_bool, pubs, pubsFrom, List.map_cons, List.map_nil, List.set_cons_zero, List.set_cons_succ, List.length_cons, List.length_nil, List.replicate_succ, List.replicate_zero, List.cons_append, List.nil_append, Nat.reduceAdd, Nat.reduceSub, Bool.false_eq_true, ↓reduceIte, Nat.zero_add]
  refine callK_intro (p10 _) ?_
  by_cases h1 : (50 : Int) < l.length
  · have d1 : decide ((50 : Int) < (l.length : Int)) = true := by simpa using h1
    simp (maxSteps := 2000000) (disch := first | omega | (simp only [List.length_append, List.length_cons, List.length_nil, List.length_map] <;> omega)) only [d1, q1, q5, flg_bool, swp_seq, swp_reg, swp_ret, swp_cond, seqK_n, seqK_r, condK_t, evK_some, appK_eq, appC_eq, srun_nil, srun_cons, fin_ret, sk_mv, sk_give, sk_bin, sk_lenL, get_mk, raw_slot, raw_lit, put_some, wb_nil, ev_mv, ev_give, bin_gtr, ro_bool, List.map_cons, List.map_nil, List.getD_cons_zero, List.getD_cons_succ, List.set_cons_zero, List.set_cons_succ, List.length_nil, and_true, Bool.false_eq_true, ↓reduceIte, gt_iff_lt]
    first | exact ⟨_, .same⟩ | exact ⟨_, .same, rfl⟩ | exact ⟨_, .same, rfl, rfl⟩
  have d1 : decide ((50 : Int) < (l.length : Int)) = false := by simpa using h1
  simp (maxSteps := 2000000) (disch := first | omega | (simp only [List.length_append, List.length_cons, List.length_nil, List.length_map] <;> omega)) only [d1, q1, q5, flg_bool, exc_int, swp_seq, swp_reg, swp_skip, swp_block, swp_cond, seqK_n, condK_f, evK_some, appK_eq, appC_eq, srun_nil, srun_cons, sk_mv, sk_take, sk_give, sk_bin, sk_lenL, get_mk, raw_slot, raw_lit, put_some, wb_nil, ev_mv, ev_take, ev_give, bin_gtr, ro_bool, got_int, List.map_cons, List.map_nil, List.getD_cons_zero, List.getD_cons_succ, List.set_cons_zero, List.set_cons_succ, Bool.false_eq_true, ↓reduceIte, gt_iff_lt]
  refine swp_lp (fun S => ∃ (i : Nat), i ≤ l.length ∧
      S = ⟨[v, .int .i64 a, .undef, .undef, .bool false, .bool true, .int .i64 i] ++ List.replicate 85 .undef, []⟩)
      (fun S => match S.get 6 with | .int _ k => ((l.length : Int) - k).toNat | _ => 0)
      ⟨[v, .int .i64 a, .undef, .undef, .bool false, .bool true, .int .i64 0] ++ List.replicate 85 .undef, []⟩ ?_ ⟨0, Nat.zero_le _, rfl⟩ ?_
  · refine Forget.of ?_
    repeat first | exact fg_e | refine fg_d ?_ | refine fg_k rfl ?_
  rintro S ⟨i, hi, rfl⟩
  by_cases him : i = l.length
  case neg =>
    have hd : decide ((i : Int) < (l.length : Int)) = true := by rw [decide_eq_true_eq]; omega
    have hil : i < l.length := by omega
    have hat := ssv_at l i l[i] (List.getElem?_eq_getElem hil)
    have hsl := ssv_len l
    have fin : ((l.length : Int) - ((i + 1 : Nat) : Int)).toNat < ((l.length : Int) - (i : Int)).toNat := by omega
    have hvv := rdS_at hv hil
    subst hvv
    by_cases h3 : (100 : Int) < l[i].length
    · have d3 : decide ((100 : Int) < (l[i].length : Int)) = true := by simpa using h3
      simp (maxSteps := 2000000) (disch := first | omega | (simp only [List.length_append, List.length_cons, List.length_nil, List.length_map] <;> omega)) only [hd, hat, d3, lpK_r, Int.toNat_natCast, flg_bool, sk_idxB, idxB_ro, swp_seq, swp_reg, swp_skip, swp_ret, swp_block, swp_cond, seqK_n, seqK_r, blkK_r, condK_t, evK_some, appK_eq, srun_nil, srun_cons, fin_ret, sk_mv, sk_give, sk_bin, sk_load, sk_lenS, sk_lenL, get_mk, raw_slot, raw_lit, put_some, wb_nil, ev_mv, ev_give, ev_lenS, ev_lenL, bin_lss, bin_gtr, ev_loadE, ro_int, ro_bool, ro_str, ro_ro, List.map_cons, List.map_nil, List.getD_cons_zero, List.getD_cons_succ, List.set_cons_zero, List.set_cons_succ, List.length_nil, List.replicate_succ, List.replicate_zero, List.cons_append, List.nil_append, and_true, Bool.false_eq_true, Option.map_some, ↓reduceIte, Nat.mul_one, gt_iff_lt]
      first | exact ⟨_, .same⟩ | exact ⟨_, .same, rfl⟩ | exact ⟨_, .same, rfl, rfl⟩
    have d3 : decide ((100 : Int) < (l[i].length : Int)) = false := by simpa using h3
    simp (maxSteps := 2000000) (disch := first | omega | (simp only [List.length_append, List.length_cons, List.length_nil, List.length_map] <;> omega)) only [hd, hat, d3, lpK_n, Int.toNat_natCast, flg_int, sk_idxB, idxB_ro, swp_seq, swp_reg, swp_skip, swp_block, swp_cond, seqK_n, blkK_n, condK_t, condK_f, evK_some, appK_eq, srun_nil, srun_cons, sk_mv, sk_give, sk_bin, sk_load, sk_lenS, sk_lenL, get_mk, raw_slot, raw_lit, put_some, wb_nil, ev_mv, ev_give, ev_lenS, ev_lenL, bin_add, bin_lss, bin_gtr, ev_loadE, ro_int, ro_str, ro_ro, List.map_cons, List.map_nil, List.getD_cons_zero, List.getD_cons_succ, List.set_cons_zero, List.set_cons_succ, List.length_nil, List.replicate_succ, List.replicate_zero, List.cons_append, List.nil_append, Bool.false_eq_true, Option.map_some, ↓reduceIte, Nat.mul_one, gt_iff_lt, wrap_i64]
    refine ⟨_, ?_, ⟨i + 1, by omega, rfl⟩, by exact fin⟩
    refine Forget.of ?_
    repeat first | exact fg_e | refine fg_d ?_ | refine fg_k rfl ?_
  have hd : decide ((i : Int) < (l.length : Int)) = false := by rw [decide_eq_false_iff_not]; omega
  simp (maxSteps := 2000000) (disch := first | omega | (simp only [List.length_append, List.length_cons, List.length_nil, List.length_map] <;> omega)) only [hd, q1, q2, q3, q5, lpK_e, swp_seq, swp_reg, swp_exit, swp_cond, seqK_n, seqK_e, blkK_e, condK_f, evK_some, appK_eq, srun_nil, srun_cons, stepK_call, sk_mv, sk_bin, sk_lenL, get_mk, raw_slot, put_some, wb_nil, ev_mv, bin_lss, ro_int, pubs, pubsFrom, List.map_cons, List.map_nil, List.getD_cons_zero, List.getD_cons_succ, List.set_cons_zero, List.set_cons_succ, List.length_nil, List.replicate_succ, List.replicate_zero, List.cons_append, List.nil_append, Bool.false_eq_true, ↓reduceIte]
  refine callK_intro k22 ?_
  cases hs : sortedB l with
  | false =>
    have h0 : decide ((0 : Int) < (l.length : Int)) = true := by
      rw [decide_eq_true_eq]
      cases hll : l with
      | nil => rw [hll] at hs; cases hs
      | cons x r => simp
    simp (maxSteps := 2000000) (disch := first | omega | (simp only [List.length_append, List.length_cons, List.length_nil, List.length_map] <;> omega)) only [h0, q2, q3, q5, flg_bool, swp_seq, swp_reg, swp_ret, swp_cond, seqK_n, seqK_r, condK_t, evK_some, appK_eq, appC_eq, grd_t, srun_nil, srun_cons, stepK_grd, fin_ret, sk_mv, sk_take, sk_give, sk_pick, sk_bin, sk_un, sk_lenL, get_mk, raw_slot, raw_lit, put_some, wb_nil, ev_mv, ev_take, ev_give, ev_pick, ev_not, bin_gtr, ro_bool, List.map_cons, List.map_nil, List.getD_cons_zero, List.getD_cons_succ, List.set_cons_zero, List.set_cons_succ, List.length_nil, and_true, Bool.false_eq_true, ↓reduceIte, Bool.not_false, gt_iff_lt]
    first | exact ⟨_, .same⟩ | exact ⟨_, .same, rfl⟩ | exact ⟨_, .same, rfl, rfl⟩
  | true =>
  simp (maxSteps := 2000000) (disch := first | omega | (simp only [List.length_append, List.length_cons, List.length_nil, List.length_map] <;> omega)) only [exc_int, swp_seq, swp_reg, swp_skip, swp_block, swp_cond, seqK_n, condK_f, evK_some, appK_eq, appC_eq, srun_nil, srun_cons, sk_take, sk_un, get_mk, raw_slot, raw_lit, put_some, wb_nil, ev_take, ev_not, got_int, List.map_cons, List.map_nil, List.getD_cons_zero, List.getD_cons_succ, List.set_cons_zero, List.set_cons_succ, Bool.false_eq_true, ↓reduceIte, Bool.not_true]
  clear hd him hi
  refine swp_lp (fun S => ∃ (j : Nat) (w : SV), j ≤ l.length ∧
      S = ⟨[v, .int .i64 a, .undef, .undef, .bool false, .bool true, .undef, .int .i64 j, w] ++ List.replicate 83 .undef, []⟩)
      (fun S => match S.get 7 with | .int _ k => ((l.length : Int) - k).toNat | _ => 0)
      ⟨[v, .int .i64 a, .undef, .undef, .bool false, .bool true, .undef, .int .i64 0, .undef] ++ List.replicate 83 .undef, []⟩ ?_ ⟨0, .undef, Nat.zero_le _, rfl⟩ ?_
  · refine Forget.of ?_
    repeat first | exact fg_e | refine fg_d ?_ | refine fg_k rfl ?_
  rintro S ⟨j, w, hj, rfl⟩
  by_cases hjm : j = l.length
  case neg =>
    have hd : decide ((j : Int) < (l.length : Int)) = true := by rw [decide_eq_true_eq]; omega
    have hjl : j < l.length := by omega
    have fin : ((l.length : Int) - ((j + 1 : Nat) : Int)).toNat < ((l.length : Int) - (j : Int)).toNat := by omega
    have hvv := rdS_at hv hjl
    have hsl := ssv_len l
    have hat := ssv_at l j l[j] (List.getElem?_eq_getElem hjl)
    subst hvv
    simp (maxSteps := 2000000) (disch := first | omega | (simp only [List.length_append, List.length_cons, List.length_nil, List.length_map] <;> omega)) only [hd, exc_int, swp_seq, swp_reg, swp_skip, swp_block, swp_cond, seqK_n, condK_t, evK_some, appK_eq, srun_nil, srun_cons, sk_mv, sk_take, sk_bin, sk_lenL, get_mk, raw_slot, raw_lit, put_some, wb_nil, ev_mv, ev_take, ev_lenL, bin_lss, ro_int, ro_ro, got_int, List.map_cons, List.map_nil, List.getD_cons_zero, List.getD_cons_succ, List.set_cons_zero, List.set_cons_succ, List.length_nil, List.replicate_succ, List.replicate_zero, List.cons_append, List.nil_append, Bool.false_eq_true, ↓reduceIte]
    refine swp_lp (fun S => ∃ (k : Nat), k ≤ j ∧
        S = ⟨[.sl (ssv l) l.length .ro, .int .i64 a, .undef, .undef, .bool false, .bool true, .undef, .int .i64 j, .int .i64 k] ++ List.replicate 83 .undef, []⟩)
        (fun S => match S.get 8 with | .int _ k => ((l.length : Int) - k).toNat | _ => 0)
        ⟨[.sl (ssv l) l.length .ro, .int .i64 a, .undef, .undef, .bool false, .bool true, .undef, .int .i64 j, .int .i64 0] ++ List.replicate 83 .undef, []⟩ ?_ ⟨0, Nat.zero_le _, rfl⟩ ?_
    · refine Forget.of ?_
      repeat first | exact fg_e | refine fg_d ?_ | refine fg_k rfl ?_
    rintro S ⟨k, hk, rfl⟩
    by_cases hkj : k = j
    · have hd2 : decide ((k : Int) < (j : Int)) = false := by rw [decide_eq_false_iff_not]; omega
      simp (maxSteps := 2000000) (disch := first | omega | (simp only [List.length_append, List.length_cons, List.length_nil, List.length_map] <;> omega)) only [hd2, lpK_n, lpK_e, flg_int, swp_seq, swp_reg, swp_exit, swp_cond, seqK_n, seqK_e, blkK_n, blkK_e, condK_f, evK_some, appK_eq, srun_nil, srun_cons, sk_mv, sk_give, sk_bin, get_mk, raw_slot, raw_lit, put_some, wb_nil, ev_mv, ev_give, bin_add, bin_lss, ro_int, List.map_cons, List.map_nil, List.getD_cons_zero, List.getD_cons_succ, List.set_cons_zero, List.set_cons_succ, List.length_nil, List.replicate_succ, List.replicate_zero, List.cons_append, List.nil_append, Bool.false_eq_true, ↓reduceIte, wrap_i64]
      refine ⟨_, ?_, ⟨j + 1, .int .i64 (k : Int), by omega, rfl⟩, by exact fin⟩
      refine Forget.of ?_
      repeat first | exact fg_e | refine fg_d ?_ | refine fg_k rfl ?_
    · have hd2 : decide ((k : Int) < (j : Int)) = true := by rw [decide_eq_true_eq]; omega
      have hkl : k < l.length := by omega
      have hat2 := ssv_at l k l[k] (List.getElem?_eq_getElem hkl)
      have hne : (l[j] == l[k]) = false := by
        rw [beq_eq_false_iff_ne]
        exact sorted_ne hs hjl (by omega)
      have fin2 : ((l.length : Int) - ((k + 1 : Nat) : Int)).toNat < ((l.length : Int) - (k : Int)).toNat := by omega
      simp (maxSteps := 2000000) (disch := first | omega | (simp only [List.length_append, List.length_cons, List.length_nil, List.length_map] <;> omega)) only [hd2, hat, hat2, hne, lpK_n, Int.toNat_natCast, flg_int, swp_seq, swp_reg, swp_skip, swp_block, swp_cond, seqK_n, blkK_n, condK_t, condK_f, evK_some, appK_eq, srun_nil, srun_cons, sk_mv, sk_give, sk_bin, sk_idxA, sk_load, get_mk, raw_slot, raw_lit, put_some, wb_nil, ev_mv, ev_give, bin_add, bin_lss, bin_eqlS, ev_loadE, idxA_ro, ro_int, ro_str, ro_ro, List.map_cons, List.map_nil, List.getD_cons_zero, List.getD_cons_succ, List.set_cons_zero, List.set_cons_succ, List.length_nil, List.replicate_succ, List.replicate_zero, List.cons_append, List.nil_append, Bool.false_eq_true, Option.map_some, ↓reduceIte, Nat.mul_one, wrap_i64]
      refine ⟨_, ?_, ⟨k + 1, by omega, rfl⟩, by exact fin2⟩
      refine Forget.of ?_
      repeat first | exact fg_e | refine fg_d ?_ | refine fg_k rfl ?_
  have hd : decide ((j : Int) < (l.length : Int)) = false := by rw [decide_eq_false_iff_not]; omega
  by_cases ha : a < 0
  · have d2 : decide (a < 0) = true := by simpa using ha
    simp (maxSteps := 2000000) (disch := first | omega | (simp only [List.length_append, List.length_cons, List.length_nil, List.length_map] <;> omega)) only [hd, d2, q1, q5, lpK_e, flg_bool, swp_seq, swp_reg, swp_ret, swp_exit, swp_cond, seqK_n, seqK_e, seqK_r, blkK_e, condK_t, condK_f, evK_some, appK_eq, grd_t, srun_nil, srun_cons, stepK_grd, fin_ret, sk_mv, sk_give, sk_pick, sk_bin, sk_lenL, get_mk, raw_slot, raw_lit, put_some, wb_nil, ev_mv, ev_give, ev_pick, bin_lss, ro_int, ro_bool, List.map_cons, List.map_nil, List.getD_cons_zero, List.getD_cons_succ, List.set_cons_zero, List.set_cons_succ, List.length_nil, List.replicate_succ, List.replicate_zero, List.cons_append, List.nil_append, and_true, Bool.false_eq_true, ↓reduceIte, reduceCtorEq]
    first | exact ⟨_, .same⟩ | exact ⟨_, .same, rfl⟩ | exact ⟨_, .same, rfl, rfl⟩
  have d2 : decide (a < 0) = false := by simpa using ha
  obtain ⟨n, rfl⟩ : ∃ n : Nat, a = (n : Int) := ⟨a.toNat, by omega⟩
  by_cases hn : l.length ≤ n
  · have d3 : decide ((l.length : Int) ≤ (n : Int)) = true := by rw [decide_eq_true_eq]; omega
    simp (maxSteps := 2000000) (disch := first | omega | (simp only [List.length_append, List.length_cons, List.length_nil, List.length_map] <;> omega)) only [hd, d2, d3, q1, q2, q3, q5, lpK_e, flg_bool, exc_int, swp_seq, swp_reg, swp_ret, swp_exit, swp_cond, seqK_n, seqK_e, seqK_r, blkK_e, condK_t, condK_f, evK_some, appK_eq, grd_t, srun_nil, srun_cons, stepK_grd, fin_ret, sk_mv, sk_take, sk_give, sk_pick, sk_bin, sk_lenL, get_mk, raw_slot, raw_lit, put_some, wb_nil, ev_mv, ev_take, ev_give, ev_pick, bin_lss, bin_geq, ro_int, ro_bool, got_int, List.map_cons, List.map_nil, List.getD_cons_zero, List.getD_cons_succ, List.set_cons_zero, List.set_cons_succ, List.length_nil, List.replicate_succ, List.replicate_zero, List.cons_append, List.nil_append, and_true, Bool.false_eq_true, ↓reduceIte, ge_iff_le]
    first | exact ⟨_, .same⟩ | exact ⟨_, .same, rfl⟩ | exact ⟨_, .same, rfl, rfl⟩
  have d3 : decide ((l.length : Int) ≤ (n : Int)) = false := by rw [decide_eq_false_iff_not]; omega
  have hnl : n < l.length := by omega
  have hne : l ≠ [] := by intro e; rw [e] at hnl; simp at hnl
  have z1 := rdS_hi hv (n := n) (by omega) hne
  have z2 := rdS_lo hv (n := n + 1) (by omega) hne
  have en : (n : Int) + 1 = ((n + 1 : Nat) : Int) := by omega
  have a1 := fun st z => app_rdS (v := .sl (ssv (l.take n)) n .ro) (l := l.take n) (xs := []) (n := 0) (z := z) (.inr (by rw [List.length_take, Nat.min_eq_left (by omega)])) rfl (by rw [List.length_take]; omega) st
  have a2 := fun st z => app_rdS (v := .sl (ssv (l.drop (n + 1))) (l.length - (n + 1)) .ro) (l := l.drop (n + 1)) (xs := ssv (l.take n)) (n := (l.take n).length) (z := z) (.inr (by rw [List.length_drop])) (ssv_len _) (by rw [List.length_take, List.length_drop]; omega) st
  have a3 := fun st z => app_rdS (xs := []) (n := 0) (z := z) hv rfl (by omega) st
  simp only [List.nil_append, Nat.zero_add] at a1 a3
  have hsub : (l.take n ++ l.drop (n + 1)).Sublist l := by
    conv => rhs; rw [← List.take_append_drop n l]
    refine List.Sublist.append (List.Sublist.refl _) ?_
    rw [show l.drop (n + 1) = (l.drop n).drop 1 from by rw [List.drop_drop]]
    exact List.drop_sublist _ _
  have k1 : O23 22 [.sl (ssv (l.take n) ++ ssv (l.drop (n + 1))) ((l.take n).length + (l.drop (n + 1)).length) .ro] [] (.bool true) [] := by
    have := up (p22 (v := .sl (ssv (l.take n ++ l.drop (n + 1))) (l.take n ++ l.drop (n + 1)).length .ro) (l := l.take n ++ l.drop (n + 1)) ⟨fun x hx => sA.1 x (hsub.subset hx), Nat.le_trans hsub.length_le sA.2⟩ (.inr rfl) [])
    rw [sorted_sub hs hsub] at this
    rw [ssv_app, ← List.length_append]; exact this
  have hat := ssv_at l n l[n] (List.getElem?_eq_getElem hnl)
  have hsl := ssv_len l
  have hvv := rdS_at hv hnl
  have a4 := fun st z => app_rdS (v := .sl [.str l[n]] 1 .ro) (l := [l[n]]) (xs := ssv l) (n := l.length) (z := z) (.inr rfl) (ssv_len _) (by simp; omega) st
  have k2 : O23 22 [.sl (ssv l ++ [.str l[n]]) (l.length + 1) .ro] [] (.bool false) [] := by
    have := up (p22 (v := .sl (ssv (l ++ [l[n]])) (l ++ [l[n]]).length .ro) (l := l ++ [l[n]]) ⟨fun x hx => by
      rcases List.mem_append.1 hx with hx | hx
      · exact sA.1 x hx
      · rw [List.mem_singleton.1 hx]; exact sA.1 _ (List.getElem_mem hnl), by simp; omega⟩ (.inr rfl) [])
    rw [sorted_dup (List.getElem_mem hnl)] at this
    rw [← ssv_app, List.length_append] at this
    exact this
  have hz := ssv_len (l.take n)
  subst hvv
  simp (maxSteps := 2000000) (disch := first | omega | (simp only [List.length_append, List.length_cons, List.length_nil, List.length_map] <;> omega)) only [hd, d2, d3, z1, z2, en, a1, a2, lpK_e, pub_excl2, exc_int, exc_ro, exc_excl, swp_seq, swp_reg, swp_skip, swp_exit, swp_cond, seqK_n, seqK_e, blkK_e, condK_f, evK_some, appK_eq, grd_t, srun_nil, srun_cons, stepK_call, stepK_grd, sk_mv, sk_take, sk_pick, sk_bin, sk_lenL, sk_slcL, sk_bsl, sk_app, get_mk, raw_slot, raw_lit, put_some, wb_nil, wb_cons, ev_mv, ev_take, ev_pick, ev_lenL, bin_add, bin_lss, bin_geq, ev_bsl, ro_int, ro_bool, ro_ro, got_excl, got_roo, got_int, pubs, pubsFrom, List.map_cons, List.map_nil, List.getD_cons_zero, List.getD_cons_succ, List.set_cons_zero, List.set_cons_succ, List.getElem?_cons_zero, List.length_nil, List.replicate_succ, List.replicate_zero, List.cons_append, List.nil_append, and_true, Bool.false_eq_true, Option.map_some, ↓reduceIte, List.all_nil, List.zip_nil_right, rep, fillV, List.flatten_nil, Nat.mul_one, ge_iff_le, wrap_i64]
  refine callK_intro k1 ?_
  have hz2 := hsl
  simp (maxSteps := 2000000) (disch := first | omega | (simp only [List.length_append, List.length_cons, List.length_nil, List.length_map] <;> omega)) only [a3, hat, Int.toNat_natCast, pub_excl2, exc_str, exc_excl, evK_some, appK_eq, appC_eq, grd_t, srun_cons, stepK_call, stepK_grd, sk_mv, sk_pick, sk_idxA, sk_load, sk_bsl, sk_app, get_mk, raw_slot, raw_lit, put_some, wb_nil, wb_cons, ev_mv, ev_pick, ev_bsl, ev_loadE, idxA_ro, ro_int, ro_bool, ro_str, ro_ro, got_excl, got_str, pubs, pubsFrom, List.map_cons, List.map_nil, List.getD_cons_zero, List.getD_cons_succ, List.set_cons_zero, List.set_cons_succ, List.getElem?_cons_zero, List.length_cons, List.length_nil, List.replicate_succ, List.replicate_zero, Nat.reduceLT, and_true, Bool.false_eq_true, Option.map_some, ↓reduceIte, List.all_cons, List.all_nil, Bool.and_self, List.zip_cons_cons, List.zip_nil_right, rep, fillV, wrCells, cellsV, isCell, List.flatten_cons, List.flatten_nil, List.append_nil, decide_true, Nat.mul_one, Nat.zero_add, Nat.le_refl, app_excl]
  refine callK_intro k2 ?_
  simp (maxSteps := 2000000) (disch := first | omega | (simp only [List.length_append, List.length_cons, List.length_nil, List.length_map] <;> omega)) only [flg_bool, swp_ret, seqK_n, evK_some, appK_eq, appC_eq, grd_t, srun_nil, srun_cons, stepK_grd, fin_ret, sk_give, sk_pick, sk_un, get_mk, raw_slot, raw_lit, put_some, wb_nil, wb_cons, ev_give, ev_pick, ev_not, ro_bool, List.map_cons, List.map_nil, List.getD_cons_zero, List.getD_cons_succ, List.set_cons_zero, List.set_cons_succ, List.getElem?_cons_zero, List.length_nil, and_true, Bool.false_eq_true, ↓reduceIte, Bool.not_false]
  first | exact ⟨_, .same⟩ | exact ⟨_, .same, rfl⟩ | exact ⟨_, .same, rfl, rfl⟩
end Go.Sh.F
