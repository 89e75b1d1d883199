/-
  Paths: the document's functions, in the shadow machine.
-/
import Derived.Test.YtdbpcmapcmchbaaDoorQ3
set_option linter.unusedSimpArgs false
set_option linter.unusedVariables false
namespace Go.Sh.F
open Go.PathLaw Go.Proofs
set_option maxHeartbeats 8000000 in
theorem f28 (O : Orc) (s : List UInt8) (hs : sm s) (st : List Ob) : swpF O sf28 [.str s] st (fun r st' => r = .sl (ssv (spl s)) (spl s).length (.excl 1) ∧ st' = st) := by
  unfold sm at hs
  have hll := spl_length_le s
  simp (maxSteps := 2000000) (disch := first | omega | (simp only [List.length_append, List.length_cons, List.length_nil, List.length_map] <;> omega)) only [sf28, flg_nilS, exc_int, exc_nilS, swp_seq, swp_reg, swp_block, seqK_n, evK_some, appK_eq, srun_nil, srun_cons, swpF_eq, sk_take, sk_give, raw_lit, put_some, wb_nil, ev_take, ev_give, ro_nilS, got_int, got_nilS, List.map_cons, List.map_nil, List.set_cons_zero, List.set_cons_succ, List.length_cons, List.length_nil, List.replicate_succ, List.replicate_zero, List.cons_append, List.nil_append, Nat.reduceSub, Bool.false_eq_true, ↓reduceIte, Nat.zero_add]
  refine swp_lp (fun S => ∃ (i from_ : Nat) (pre : List (List UInt8)), pre.length ≤ i ∧ ((i ≤ s.length ∧ from_ ≤ i ∧ (47 : UInt8) ∉ (s.take i).drop from_ ∧ spl s = pre ++ spl (s.drop from_)) ∨ (i = s.length + 1 ∧ pre = spl s)) ∧
      S = ⟨[.str s, .undef, .nilS, rowV pre, .int .i64 from_, .int .i64 i] ++ List.replicate 26 .undef, st⟩)
      (fun S => match S.get 5 with | .int _ k => ((s.length : Int) + 1 - k).toNat | _ => 0)
      ⟨[.str s, .undef, .nilS, rowV [], .int .i64 0, .int .i64 0] ++ List.replicate 26 .undef, st⟩ ?_ ⟨0, 0, [], Nat.zero_le _, .inl ⟨Nat.zero_le _, Nat.le_refl _, by simp, rfl⟩, rfl⟩ ?_
  · refine Forget.of ?_
    repeat first | exact fg_e | refine fg_d ?_ | refine fg_k rfl ?_
  rintro S ⟨i, from_, pre, hpl, hcase, rfl⟩
  rcases hcase with ⟨hi, hfi, hno, hspl⟩ | ⟨rfl, rfl⟩
  case inr =>
    have hd : decide (((s.length + 1 : Nat) : Int) ≤ (s.length : Int)) = false := by rw [decide_eq_false_iff_not]; omega
    rw [rowV_ne (spl_ne s)]
    simp (maxSteps := 2000000) (disch := first | omega | (simp only [List.length_append, List.length_cons, List.length_nil, List.length_map] <;> omega)) only [hd, lpK_e, flg_excl, swp_seq, swp_reg, swp_ret, swp_exit, swp_cond, seqK_n, seqK_e, blkK_e, condK_f, evK_some, appK_eq, srun_nil, srun_cons, fin_ret, sk_mv, sk_give, sk_bin, sk_lenS, get_mk, raw_slot, put_some, wb_nil, wb_cons, ev_mv, ev_give, ev_lenS, bin_leq, ro_int, ro_str, ro_excl, List.map_cons, List.map_nil, List.getD_cons_zero, List.getD_cons_succ, List.set_cons_zero, List.set_cons_succ, List.getElem?_cons_zero, List.replicate_succ, List.replicate_zero, List.cons_append, List.nil_append, true_and, ↓reduceIte]
    first | exact ⟨_, .same⟩ | exact ⟨_, .same, rfl⟩ | exact ⟨_, .same, rfl, rfl⟩
  have hd : decide ((i : Int) ≤ (s.length : Int)) = true := by rw [decide_eq_true_eq]; omega
  have fin : ((s.length : Int) + 1 - ((i + 1 : Nat) : Int)).toNat < ((s.length : Int) + 1 - (i : Int)).toNat := by omega
  have hsc : ∀ st, ev st (.slcS true true) [.str s, .int .i64 (from_ : Int), .int .i64 (i : Int)] = some (.str ((s.take i).drop from_), [], st) := fun st => by
    rw [slcS_both (by omega) (by omega) (by omega)]; rfl
  have hdrop : s.drop from_ = (s.take i).drop from_ ++ s.drop i := by
    conv => lhs; rw [← List.take_append_drop i s]
    rw [List.drop_append_of_le_length (by rw [List.length_take]; omega)]
  generalize hcur : (s.take i).drop from_ = cur at *
  have happ : ∀ st, ev st (.app 1 16 [.str []]) [rowV pre, .sl [.str cur] 1 (.excl 1)] = some (rowV (pre ++ [cur]), if pre = [] then [] else [(0, .undef)], st) := by
    intro st
    by_cases hp : pre = []
    · subst hp
      rw [if_pos rfl, rowV_nil, app_nil (by simp) (by omega) (by omega) (by omega)]; rfl
    · rw [if_neg hp, rowV_ne hp, app_excl (by rw [ssv_len]; omega) (by simp) (by omega) (by omega), rowV_app]
  have hflg : flg (rowV (pre ++ [cur])) = true ∧ ro (rowV (pre ++ [cur])) = .undef ∧ exc (rowV (pre ++ [cur])) = true ∧ pub (rowV (pre ++ [cur])) = .sl (ssv pre ++ [.str cur]) (pre.length + 1) (.own 1) := by
    rw [rowV_app]; exact ⟨rfl, rfl, rfl, rfl⟩
  by_cases him : i = s.length
  · have d1 : ((i : Int) == (s.length : Int)) = true := by simp [him]
    have hfin : pre ++ [cur] = spl s := by
      rw [hspl, hdrop, him, List.drop_length, List.append_nil, spl_plain cur hno]
    by_cases hp : pre = []
    · subst hp
      rw [rowV_nil]
      rw [rowV_nil, if_pos rfl] at happ
      simp only [List.nil_append] at happ hflg
      simp (maxSteps := 2000000) (disch := first | omega | (simp only [List.length_append, List.length_cons, List.length_nil, List.length_map] <;> omega)) only [hd, d1, hsc, happ, hflg.1, hflg.2.1, lpK_n, flg_int, exc_str, swp_seq, swp_reg, swp_skip, swp_block, swp_cond, seqK_n, blkK_n, condK_t, evK_some, appK_eq, grd_t, srun_nil, srun_cons, stepK_grd, sk_mv, sk_give, sk_pick, sk_bin, sk_lenS, sk_slcS, sk_bsl, sk_app, get_mk, raw_slot, raw_lit, put_some, wb_nil, wb_cons, ev_mv, ev_give, ev_pick, ev_lenS, bin_add, bin_eql, bin_leq, ev_bsl, ro_int, ro_bool, ro_str, ro_nilS, got_str, pubs, pubsFrom, List.map_cons, List.map_nil, List.getD_cons_zero, List.getD_cons_succ, List.set_cons_zero, List.set_cons_succ, List.getElem?_cons_zero, List.length_cons, List.length_nil, List.replicate_succ, List.replicate_zero, List.cons_append, List.nil_append, Nat.reduceLT, and_true, Bool.false_eq_true, Option.map_some, ↓reduceIte, List.all_cons, List.all_nil, Bool.and_self, List.zip_cons_cons, List.zip_nil_right, rep, fillV, wrCells, cellsV, isCell, List.flatten_cons, List.flatten_nil, List.append_nil, decide_true, Nat.mul_one, Nat.zero_add, reduceCtorEq, wrap_i64, Nat.le_refl]
      refine ⟨⟨[.str s, .undef, .nilS, rowV [cur], .int .i64 ((i + 1 : Nat) : Int), .int .i64 ((i + 1 : Nat) : Int)] ++ List.replicate 26 .undef, st⟩, ?_, ⟨i + 1, i + 1, [cur], by simp, .inr ⟨by omega, hfin⟩, rfl⟩, by exact fin⟩
      refine Forget.of ?_
      repeat first | exact fg_e | refine fg_d ?_ | refine fg_k rfl ?_
    · rw [rowV_ne hp]
      rw [rowV_ne hp, if_neg hp] at happ
      simp (maxSteps := 2000000) (disch := first | omega | (simp only [List.length_append, List.length_cons, List.length_nil, List.length_map] <;> omega)) only [hd, d1, hsc, happ, hflg.1, hflg.2.1, lpK_n, flg_int, exc_str, swp_seq, swp_reg, swp_skip, swp_block, swp_cond, seqK_n, blkK_n, condK_t, evK_some, appK_eq, grd_t, srun_nil, srun_cons, stepK_grd, sk_mv, sk_give, sk_pick, sk_bin, sk_lenS, sk_slcS, sk_bsl, sk_app, get_mk, raw_slot, raw_lit, put_some, wb_nil, wb_cons, ev_mv, ev_give, ev_pick, ev_lenS, bin_add, bin_eql, bin_leq, ev_bsl, ro_int, ro_bool, ro_str, ro_excl, got_str, pubs, pubsFrom, List.map_cons, List.map_nil, List.getD_cons_zero, List.getD_cons_succ, List.set_cons_zero, List.set_cons_succ, List.getElem?_cons_zero, List.length_cons, List.length_nil, List.replicate_succ, List.replicate_zero, List.cons_append, List.nil_append, Nat.reduceLT, and_true, Bool.false_eq_true, Option.map_some, ↓reduceIte, List.all_cons, List.all_nil, Bool.and_self, List.zip_cons_cons, List.zip_nil_right, rep, fillV, wrCells, cellsV, isCell, List.flatten_cons, List.flatten_nil, List.append_nil, decide_true, Nat.mul_one, Nat.zero_add, reduceCtorEq, wrap_i64, Nat.le_refl]
      refine ⟨⟨[.str s, .undef, .nilS, rowV (pre ++ [cur]), .int .i64 ((i + 1 : Nat) : Int), .int .i64 ((i + 1 : Nat) : Int)] ++ List.replicate 26 .undef, st⟩, ?_, ⟨i + 1, i + 1, pre ++ [cur], by simp; omega, .inr ⟨by omega, hfin⟩, rfl⟩, by exact fin⟩
      refine Forget.of ?_
      repeat first | exact fg_e | refine fg_d ?_ | refine fg_k rfl ?_
  have d1 : ((i : Int) == (s.length : Int)) = false := by simp; omega
  have hil : i < s.length := by omega
  have hat2 : ∀ st, ev st .idxS [.str s, .int .i64 (i : Int)] = some (.int .u8 s[i].toNat, [], st) := fun st => by
    rw [ev_idxS (by omega), Int.toNat_natCast, List.getElem?_eq_getElem hil]; rfl
  have hdi : s.drop i = s[i] :: s.drop (i + 1) := List.drop_eq_getElem_cons hil
  by_cases h47 : s[i] = 47
  · have d2 : ((s[i].toNat : Int) == 47) = true := by rw [h47]; rfl
    have hnew : spl s = (pre ++ [cur]) ++ spl (s.drop (i + 1)) := by
      rw [hspl, hdrop, hdi, h47, spl_app cur _ hno]; simp
    have hempty : (47 : UInt8) ∉ (s.take (i + 1)).drop (i + 1) := by
      rw [List.drop_of_length_le (by rw [List.length_take]; omega)]; simp
    by_cases hp : pre = []
    · subst hp
      rw [rowV_nil]
      rw [rowV_nil, if_pos rfl] at happ
      simp only [List.nil_append] at happ hflg
      simp (maxSteps := 2000000) (disch := first | omega | (simp only [List.length_append, List.length_cons, List.length_nil, List.length_map] <;> omega)) only [hd, d1, d2, hat2, hsc, happ, hflg.1, hflg.2.1, lpK_n, flg_int, exc_int, exc_str, swp_seq, swp_reg, swp_skip, swp_block, swp_cond, seqK_n, blkK_n, condK_t, evK_some, appK_eq, grd_t, srun_nil, srun_cons, stepK_grd, sk_mv, sk_take, sk_give, sk_pick, sk_bin, sk_idxS, sk_lenS, sk_slcS, sk_bsl, sk_app, get_mk, raw_slot, raw_lit, put_some, wb_nil, wb_cons, ev_mv, ev_take, ev_give, ev_pick, ev_lenS, bin_add, bin_eql, bin_leq, ev_bsl, ro_int, ro_bool, ro_str, ro_nilS, got_int, got_str, pubs, pubsFrom, List.map_cons, List.map_nil, List.getD_cons_zero, List.getD_cons_succ, List.set_cons_zero, List.set_cons_succ, List.getElem?_cons_zero, List.length_cons, List.length_nil, List.replicate_succ, List.replicate_zero, List.cons_append, List.nil_append, Nat.reduceLT, and_true, Bool.false_eq_true, Option.map_some, ↓reduceIte, List.all_cons, List.all_nil, Bool.and_self, List.zip_cons_cons, List.zip_nil_right, rep, fillV, wrCells, cellsV, isCell, List.flatten_cons, List.flatten_nil, List.append_nil, decide_true, Nat.mul_one, Nat.zero_add, wrap_i64, Nat.le_refl]
      refine ⟨⟨[.str s, .undef, .nilS, rowV [cur], .int .i64 ((i + 1 : Nat) : Int), .int .i64 ((i + 1 : Nat) : Int)] ++ List.replicate 26 .undef, st⟩, ?_, ⟨i + 1, i + 1, [cur], by simp, .inl ⟨by omega, Nat.le_refl _, hempty, hnew⟩, rfl⟩, by exact fin⟩
      refine Forget.of ?_
      repeat first | exact fg_e | refine fg_d ?_ | refine fg_k rfl ?_
    · rw [rowV_ne hp]
      rw [rowV_ne hp, if_neg hp] at happ
      simp (maxSteps := 2000000) (disch := first | omega | (simp only [List.length_append, List.length_cons, List.length_nil, List.length_map] <;> omega)) only [hd, d1, d2, hat2, hsc, happ, hflg.1, hflg.2.1, lpK_n, flg_int, exc_int, exc_str, swp_seq, swp_reg, swp_skip, swp_block, swp_cond, seqK_n, blkK_n, condK_t, evK_some, appK_eq, grd_t, srun_nil, srun_cons, stepK_grd, sk_mv, sk_take, sk_give, sk_pick, sk_bin, sk_idxS, sk_lenS, sk_slcS, sk_bsl, sk_app, get_mk, raw_slot, raw_lit, put_some, wb_nil, wb_cons, ev_mv, ev_take, ev_give, ev_pick, ev_lenS, bin_add, bin_eql, bin_leq, ev_bsl, ro_int, ro_bool, ro_str, ro_excl, got_int, got_str, pubs, pubsFrom, List.map_cons, List.map_nil, List.getD_cons_zero, List.getD_cons_succ, List.set_cons_zero, List.set_cons_succ, List.getElem?_cons_zero, List.length_cons, List.length_nil, List.replicate_succ, List.replicate_zero, List.cons_append, List.nil_append, Nat.reduceLT, and_true, Bool.false_eq_true, Option.map_some, ↓reduceIte, List.all_cons, List.all_nil, Bool.and_self, List.zip_cons_cons, List.zip_nil_right, rep, fillV, wrCells, cellsV, isCell, List.flatten_cons, List.flatten_nil, List.append_nil, decide_true, Nat.mul_one, Nat.zero_add, wrap_i64, Nat.le_refl]
      refine ⟨⟨[.str s, .undef, .nilS, rowV (pre ++ [cur]), .int .i64 ((i + 1 : Nat) : Int), .int .i64 ((i + 1 : Nat) : Int)] ++ List.replicate 26 .undef, st⟩, ?_, ⟨i + 1, i + 1, pre ++ [cur], by simp; omega, .inl ⟨by omega, Nat.le_refl _, hempty, hnew⟩, rfl⟩, by exact fin⟩
      refine Forget.of ?_
      repeat first | exact fg_e | refine fg_d ?_ | refine fg_k rfl ?_
  · have d2 : ((s[i].toNat : Int) == 47) = false := by
      rw [beq_eq_false_iff_ne]
      intro h
      refine h47 (UInt8.toNat_inj.1 ?_)
      show s[i].toNat = 47
      omega
    have hno2 : (47 : UInt8) ∉ (s.take (i + 1)).drop from_ := by
      rw [← List.take_append_getElem hil, List.drop_append_of_le_length (by rw [List.length_take]; omega), hcur]
      intro h
      rcases List.mem_append.1 h with h | h
      · exact hno h
      · simp at h; exact h47 h.symm
    simp (maxSteps := 2000000) (disch := first | omega | (simp only [List.length_append, List.length_cons, List.length_nil, List.length_map] <;> omega)) only [hd, d1, d2, hat2, lpK_n, flg_int, exc_int, exc_str, swp_seq, swp_reg, swp_skip, swp_block, swp_cond, seqK_n, blkK_n, condK_t, condK_f, evK_some, appK_eq, grd_t, srun_nil, srun_cons, stepK_grd, sk_mv, sk_take, sk_give, sk_pick, sk_bin, sk_idxS, sk_lenS, get_mk, raw_slot, raw_lit, put_some, wb_nil, ev_mv, ev_take, ev_give, ev_pick, ev_lenS, bin_add, bin_eql, bin_leq, ro_int, ro_bool, ro_str, got_int, got_str, List.map_cons, List.map_nil, List.getD_cons_zero, List.getD_cons_succ, List.set_cons_zero, List.set_cons_succ, List.replicate_succ, List.replicate_zero, List.cons_append, List.nil_append, Bool.false_eq_true, ↓reduceIte, wrap_i64]
    refine ⟨⟨[.str s, .undef, .nilS, rowV pre, .int .i64 from_, .int .i64 ((i + 1 : Nat) : Int)] ++ List.replicate 26 .undef, st⟩, ?_, ⟨i + 1, from_, pre, by omega, .inl ⟨by omega, by omega, hno2, hspl⟩, rfl⟩, by exact fin⟩
    refine Forget.of ?_
    repeat first | exact fg_e | refine fg_d ?_ | refine fg_k rfl ?_
end Go.Sh.F
