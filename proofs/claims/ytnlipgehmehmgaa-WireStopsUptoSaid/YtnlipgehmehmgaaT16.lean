/-
  WireStops, in the shadow machine.
-/
import Derived.Test.YtnlipgehmehmgaaT15
set_option linter.unusedSimpArgs false
set_option linter.unusedVariables false
namespace Go.Sh.F
set_option maxHeartbeats 4000000 in
theorem f7 (v c : SV) (b : List UInt8) (zs : List Int) (most : Int) (hv : rdv v b) (hc : rdL (.int .i64) c zs) (hbl : b.length ≤ 1099511627776) (hzl : zs.length ≤ 1099511627776) :
    swpF O16 sf7 [v, .int .i64 most, c] [] (fun r _ => r = .bool true) := by
  obtain ⟨hro, hgot, hexc, hflg, hla⟩ := rdL_facts (f := fun x : UInt8 => .int .u8 x.toNat) hv
  obtain ⟨hro', hgot', hexc', hflg', hla'⟩ := rdL_facts hc
  simp (maxSteps := 2000000) (disch := first | omega | (simp only [List.length_append, List.length_cons, List.length_nil, List.length_map] <;> omega)) only [sf7, flg_bool, swp_seq, swp_reg, seqK_n, evK_some, appK_eq, srun_nil, srun_cons, stepK_call, swpF_eq, sk_give, raw_lit, put_some, wb_nil, ev_give, ro_bool, pubs, pubsFrom, List.map_cons, List.map_nil, List.set_cons_zero, List.set_cons_succ, List.length_cons, List.length_nil, List.replicate_succ, List.replicate_zero, List.cons_append, List.nil_append, Nat.reduceAdd, Nat.reduceSub, Bool.false_eq_true, ↓reduceIte, Nat.zero_add]
  refine callK_intro o11 ?_
  simp (maxSteps := 2000000) (disch := first | omega | (simp only [List.length_append, List.length_cons, List.length_nil, List.length_map] <;> omega)) only [hro, hgot, hexc, flg_bool, swp_seq, swp_reg, seqK_n, evK_some, appK_eq, appC_eq, srun_nil, srun_cons, stepK_call, sk_mv, sk_give, get_mk, raw_slot, put_some, wb_nil, ev_mv, ev_give, ro_bool, pubs, pubsFrom, List.map_cons, List.map_nil, List.getD_cons_zero, List.getD_cons_succ, List.set_cons_zero, List.set_cons_succ, Bool.false_eq_true, ↓reduceIte]
  refine callK_intro (v21 (st := []) hv hbl) ?_
  by_cases h1 : b.length ≤ 3000
  case neg =>
    have d1 : decide ((3000 : Int) < (b.length : Int)) = true := by simp; omega
    simp (maxSteps := 2000000) (disch := first | omega | (simp only [List.length_append, List.length_cons, List.length_nil, List.length_map] <;> omega)) only [d1, hgot, hexc, hla, grd_t, ev_pick, flg_bool, flg_ptr, exc_ptr, swp_seq, swp_reg, swp_ret, swp_cond, seqK_n, seqK_r, condK_t, evK_some, appK_eq, appC_eq, grd_t, srun_nil, srun_cons, stepK_grd, fin_ret, sk_mv, sk_take, sk_give, sk_pick, sk_bin, sk_eqN, sk_lenL, get_mk, raw_slot, raw_lit, put_some, wb_nil, ev_mv, ev_take, ev_give, ev_pick, ev_eqNp2, bin_gtr, ro_bool, ro_ptr, got_ptr, List.map_cons, List.map_nil, List.getD_cons_zero, List.getD_cons_succ, List.set_cons_zero, List.set_cons_succ, List.length_nil, List.nil_append, and_true, Bool.false_eq_true, ↓reduceIte, reduceCtorEq, gt_iff_lt]
    exact ⟨[], .inr ⟨by simp, by simp, rfl, rfl⟩⟩
  have d1 : decide ((3000 : Int) < (b.length : Int)) = false := by simp; omega
  by_cases h2 : zs.length ≤ 50
  case neg =>
    have d2 : decide ((50 : Int) < (zs.length : Int)) = true := by simp; omega
    simp (maxSteps := 2000000) (disch := first | omega | (simp only [List.length_append, List.length_cons, List.length_nil, List.length_map] <;> omega)) only [d1, d2, hgot, hexc, hla, hgot', hexc', hla', grd_t, ev_pick, flg_bool, flg_ptr, exc_ptr, swp_seq, swp_reg, swp_ret, swp_cond, seqK_n, seqK_r, condK_t, evK_some, appK_eq, appC_eq, grd_t, srun_nil, srun_cons, stepK_grd, fin_ret, sk_mv, sk_take, sk_give, sk_pick, sk_bin, sk_eqN, sk_lenL, get_mk, raw_slot, raw_lit, put_some, wb_nil, ev_mv, ev_take, ev_give, ev_pick, ev_eqNp2, bin_gtr, ro_bool, ro_ptr, got_ptr, List.map_cons, List.map_nil, List.getD_cons_zero, List.getD_cons_succ, List.set_cons_zero, List.set_cons_succ, List.length_nil, List.nil_append, and_true, Bool.false_eq_true, ↓reduceIte, gt_iff_lt]
    exact ⟨[], .inr ⟨by simp, by simp, rfl, rfl⟩⟩
  have d2 : decide ((50 : Int) < (zs.length : Int)) = false := by simp; omega
  simp (maxSteps := 2000000) (disch := first | omega | (simp only [List.length_append, List.length_cons, List.length_nil, List.length_map] <;> omega)) only [d1, d2, hgot, hexc, hla, hgot', hexc', hla', grd_t, ev_pick, flg_ptr, exc_int, swp_seq, swp_reg, swp_skip, swp_block, swp_cond, seqK_n, condK_f, evK_some, appK_eq, appC_eq, grd_t, srun_nil, srun_cons, stepK_grd, sk_mv, sk_take, sk_give, sk_pick, sk_bin, sk_eqN, sk_lenL, get_mk, raw_slot, raw_lit, put_some, wb_nil, ev_mv, ev_take, ev_give, ev_pick, ev_eqNp2, bin_gtr, ro_bool, ro_ptr, got_int, List.map_cons, List.map_nil, List.getD_cons_zero, List.getD_cons_succ, List.set_cons_zero, List.set_cons_succ, List.length_nil, List.nil_append, Bool.false_eq_true, ↓reduceIte, gt_iff_lt]
  refine swp_lp (fun S => ∃ (i p : Nat) (e : Int), i ≤ 50 ∧ p ≤ b.length ∧
      S = ⟨[v, .int .i64 most, c, .undef, .undef, .undef, .bool false, .bool true, .ptr 0 0, .int .i64 i] ++ List.replicate 109 .undef, [mV v p e]⟩)
      (fun S => match S.get 9 with | .int _ k => ((50 : Int) - k).toNat | _ => 0)
      ⟨[v, .int .i64 most, c, .undef, .undef, .undef, .bool false, .bool true, .ptr 0 0, .int .i64 0] ++ List.replicate 109 .undef, [mV v 0 0]⟩ ?_ ⟨0, 0, 0, by omega, by omega, rfl⟩ ?_
  · refine Forget.of ?_
    repeat first | exact fg_e | refine fg_d ?_ | refine fg_k rfl ?_
  rintro S ⟨i, p, e, hi, hp, rfl⟩
  by_cases hrun : i < 50 ∧ e = 0
  · obtain ⟨hin, rfl⟩ := hrun
    have hd : decide ((i : Int) < 50) = true := by simp; omega
    obtain ⟨y, p', e', t1, t2, t3, t4⟩ := rowF_spec2 b p 0 most i hp
    simp (maxSteps := 2000000) (disch := first | omega | (simp only [List.length_append, List.length_cons, List.length_nil, List.length_map] <;> omega)) only [hd, grd_t, exc_ptr, swp_seq, swp_reg, evK_some, appK_eq, grd_t, srun_cons, stepK_call, stepK_grd, sk_mv, sk_take, sk_bin, get_mk, raw_slot, raw_lit, put_some, wb_nil, ev_mv, ev_take, bin_lss, ro_int, ro_bool, got_ptr, pubs, pubsFrom, List.map_cons, List.map_nil, List.getD_cons_zero, List.getD_cons_succ, List.set_cons_zero, List.set_cons_succ, List.length_cons, List.length_nil, List.replicate_succ, List.replicate_zero, List.cons_append, List.nil_append, Bool.false_eq_true, ↓reduceIte, Nat.zero_add]
    refine callK_intro (v31 (id := 0) (v := v) (p := p) (e := 0) rfl) ?_
    simp (maxSteps := 2000000) (disch := first | omega | (simp only [List.length_append, List.length_cons, List.length_nil, List.length_map] <;> omega)) only [grd_t, ev_pick, exc_int, exc_ptr, swp_seq, swp_reg, swp_skip, swp_block, swp_cond, seqK_n, condK_t, evK_some, appK_eq, appC_eq, grd_t, srun_nil, srun_cons, stepK_call, stepK_grd, sk_mv, sk_pick, sk_bin, get_mk, raw_slot, raw_lit, put_some, wb_nil, ev_mv, ev_pick, bin_eql, ro_int, ro_bool, ro_ptr, got_int, got_ptr, pubs, pubsFrom, List.map_cons, List.map_nil, List.getD_cons_zero, List.getD_cons_succ, List.set_cons_zero, List.set_cons_succ, Bool.false_eq_true, ↓reduceIte, beq_self_eq_true]
    refine callK_intro (v27 (id := 0) hv hbl hp rfl t1 rfl) ?_
    simp (maxSteps := 2000000) (disch := first | omega | (simp only [List.length_append, List.length_cons, List.length_nil, List.length_map] <;> omega)) only [lpK_n, flg_int, swp_reg, seqK_n, blkK_n, evK_some, appK_eq, appC_eq, srun_nil, srun_cons, sk_mv, sk_give, sk_bin, get_mk, raw_slot, raw_lit, put_some, wb_nil, ev_mv, ev_give, bin_add, ro_int, List.map_cons, List.map_nil, List.getD_cons_zero, List.getD_cons_succ, List.set_cons_zero, List.set_cons_succ, Bool.false_eq_true, ↓reduceIte, wrap_i64]
    refine ⟨_, ?_, ⟨i + 1, p', e', by omega, t2, rfl⟩, ?_⟩
    · refine Forget.of ?_
      repeat first | exact fg_e | refine fg_d ?_ | refine fg_k rfl ?_
    · show ((50 : Int) - ((i + 1 : Nat) : Int)).toNat < ((50 : Int) - (i : Int)).toNat
      omega
  -- behind the first loop
  by_cases he : e = 0
  · subst he
    have hd : decide ((i : Int) < 50) = false := by simp; omega
    simp (maxSteps := 2000000) (disch := first | omega | (simp only [List.length_append, List.length_cons, List.length_nil, List.length_map] <;> omega)) only [hd, grd_t, ev_pick, lpK_e, exc_ptr, swp_seq, swp_reg, swp_exit, swp_cond, seqK_n, seqK_e, blkK_e, condK_f, evK_some, appK_eq, grd_t, srun_nil, srun_cons, stepK_call, stepK_grd, sk_mv, sk_pick, sk_bin, get_mk, raw_slot, raw_lit, put_some, wb_nil, ev_mv, ev_pick, bin_lss, ro_int, ro_bool, ro_ptr, got_ptr, pubs, pubsFrom, List.map_cons, List.map_nil, List.getD_cons_zero, List.getD_cons_succ, List.set_cons_zero, List.set_cons_succ, List.length_cons, List.length_nil, List.replicate_succ, List.replicate_zero, List.cons_append, List.nil_append, Bool.false_eq_true, ↓reduceIte, Nat.zero_add]
    refine callK_intro (v31 (id := 0) (v := v) (p := p) (e := 0) rfl) ?_
    simp (maxSteps := 2000000) (disch := first | omega | (simp only [List.length_append, List.length_cons, List.length_nil, List.length_map] <;> omega)) only [flg_bool, swp_seq, swp_reg, swp_ret, swp_cond, seqK_n, seqK_r, condK_t, evK_some, appK_eq, appC_eq, srun_nil, srun_cons, fin_ret, sk_mv, sk_give, sk_bin, get_mk, raw_slot, raw_lit, put_some, wb_nil, ev_mv, ev_give, bin_eql, ro_bool, List.map_cons, List.map_nil, List.getD_cons_zero, List.getD_cons_succ, List.set_cons_zero, List.set_cons_succ, List.length_nil, and_true, Bool.false_eq_true, ↓reduceIte, beq_self_eq_true]
    exact ⟨[], .inr ⟨by simp, by simp, rfl, rfl⟩⟩
  have hb0 : (e == 0) = false := by simpa using he
  have c31 := v31 (id := 0) (v := v) (p := p) (e := e) (st := [mV v p e]) rfl
  have c32 := v32 (id := 0) (v := v) (p := p) (e := e) (st := [mV v p e]) rfl
  have c29 := v29 (id := 0) (v := v) (l := b) (p := p) (p' := p) (e := e) (e' := e) (st := [mV v p e]) (st' := [mV v p e]) hv rfl (endF_err he) rfl
  have c22 : ∀ m, O16 22 [.ptr 0 0, .int .i64 m] [mV v p e] (.int .i64 0) [mV v p e] := fun m => v22 (id := 0) (p := p) (e := e) hv hbl hp rfl (numF_err he) rfl
  have c24 : ∀ m, O16 24 [.ptr 0 0, .int .i64 m] [mV v p e] (.str []) [mV v p e] := fun m => v24 (id := 0) (p := p) (e := e) hv hbl hp rfl (textF_err he) rfl
  have c27 : ∀ m k, O16 27 [.ptr 0 0, .int .i64 m, .int .i64 k] [mV v p e] .nilS [mV v p e] := fun m k => v27 (id := 0) (p := p) (e := e) (x := []) hv hbl hp rfl (rowF_err he) rfl
  have hp0 : decide ((0 : Int) ≤ (p : Int)) = true := by simp
  have hpb : decide ((p : Int) ≤ (b.length : Int)) = true := by simp; omega
  have key : i < 50 ∨ ¬ i < 50 := by omega
  rcases key with hin | hin
  · have hd : decide ((i : Int) < 50) = true := by simp; omega
    simp (maxSteps := 2000000) (disch := first | omega | (simp only [List.length_append, List.length_cons, List.length_nil, List.length_map] <;> omega)) only [hd, grd_t, exc_ptr, swp_seq, swp_reg, evK_some, appK_eq, grd_t, srun_cons, stepK_call, stepK_grd, sk_mv, sk_take, sk_bin, get_mk, raw_slot, raw_lit, put_some, wb_nil, ev_mv, ev_take, bin_lss, ro_int, ro_bool, got_ptr, pubs, pubsFrom, List.map_cons, List.map_nil, List.getD_cons_zero, List.getD_cons_succ, List.set_cons_zero, List.set_cons_succ, List.length_cons, List.length_nil, List.replicate_succ, List.replicate_zero, List.cons_append, List.nil_append, Bool.false_eq_true, ↓reduceIte, Nat.zero_add]
    refine callK_intro c31 ?_
    simp (maxSteps := 2000000) (disch := first | omega | (simp only [List.length_append, List.length_cons, List.length_nil, List.length_map] <;> omega)) only [hb0, grd_t, ev_pick, lpK_e, exc_ptr, swp_seq, swp_reg, swp_exit, swp_cond, seqK_n, seqK_e, blkK_e, condK_f, evK_some, appK_eq, appC_eq, grd_t, srun_nil, srun_cons, stepK_call, stepK_grd, sk_mv, sk_pick, sk_bin, get_mk, raw_slot, raw_lit, put_some, wb_nil, ev_mv, ev_pick, bin_eql, ro_bool, ro_ptr, got_ptr, pubs, pubsFrom, List.map_cons, List.map_nil, List.getD_cons_zero, List.getD_cons_succ, List.set_cons_zero, List.set_cons_succ, Bool.false_eq_true, ↓reduceIte]
    refine callK_intro c31 ?_
    simp (maxSteps := 2000000) (disch := first | omega | (simp only [List.length_append, List.length_cons, List.length_nil, List.length_map] <;> omega)) only [hb0, exc_ptr, swp_seq, swp_reg, swp_skip, swp_cond, seqK_n, condK_f, evK_some, appK_eq, appC_eq, srun_nil, srun_cons, stepK_call, sk_mv, sk_bin, get_mk, raw_slot, raw_lit, put_some, wb_nil, ev_mv, bin_eql, ro_ptr, got_ptr, pubs, pubsFrom, List.map_cons, List.map_nil, List.getD_cons_zero, List.getD_cons_succ, List.set_cons_zero, List.set_cons_succ, Bool.false_eq_true, ↓reduceIte]
    refine callK_intro c31 ?_
    simp (maxSteps := 2000000) (disch := first | omega | (simp only [List.length_append, List.length_cons, List.length_nil, List.length_map] <;> omega)) only [flg_int, exc_ptr, swp_seq, swp_reg, seqK_n, evK_some, appK_eq, appC_eq, srun_nil, srun_cons, stepK_call, sk_mv, sk_give, get_mk, raw_slot, put_some, wb_nil, ev_mv, ev_give, ro_int, ro_ptr, got_ptr, pubs, pubsFrom, List.map_cons, List.map_nil, List.getD_cons_zero, List.getD_cons_succ, List.set_cons_zero, List.set_cons_succ, Bool.false_eq_true, ↓reduceIte]
    refine callK_intro c32 ?_
    simp (maxSteps := 2000000) (disch := first | omega | (simp only [List.length_append, List.length_cons, List.length_nil, List.length_map] <;> omega)) only [flg_int, exc_int, swp_seq, swp_reg, swp_block, seqK_n, evK_some, appK_eq, appC_eq, srun_nil, srun_cons, sk_take, sk_give, get_mk, raw_slot, raw_lit, put_some, wb_nil, ev_take, ev_give, ro_int, got_int, List.map_cons, List.map_nil, List.getD_cons_zero, List.getD_cons_succ, List.set_cons_zero, List.set_cons_succ, Bool.false_eq_true, ↓reduceIte]
    refine swp_lp (fun S => ∃ (j : Nat), j ≤ zs.length ∧
        S = ⟨[v, .int .i64 most, c, .undef, .undef, .undef, .bool false, .bool true, .ptr 0 0, .undef, .int .i64 e, .int .i64 p, .int .i64 j] ++ List.replicate 106 .undef, [mV v p e]⟩)
        (fun S => match S.get 12 with | .int _ k => ((zs.length : Int) - k).toNat | _ => 0)
        ⟨[v, .int .i64 most, c, .undef, .undef, .undef, .bool false, .bool true, .ptr 0 0, .undef, .int .i64 e, .int .i64 p, .int .i64 0] ++ List.replicate 106 .undef, [mV v p e]⟩ ?_ ⟨0, by omega, rfl⟩ ?_
    · refine Forget.of ?_
      repeat first | exact fg_e | refine fg_d ?_ | refine fg_k rfl ?_
    rintro S ⟨j, hj, rfl⟩
    by_cases hjn : j = zs.length
    · have hdj : decide ((j : Int) < (zs.length : Int)) = false := by simp; omega
      simp (maxSteps := 2000000) (disch := first | omega | (simp only [List.length_append, List.length_cons, List.length_nil, List.length_map] <;> omega)) only [hdj, hp0, hpb, hgot, hexc, hla, hro', hla', grd_t, ev_pick, lpK_e, flg_bool, exc_int, swp_seq, swp_reg, swp_ret, swp_exit, swp_cond, seqK_n, seqK_e, blkK_e, condK_f, evK_some, appK_eq, grd_t, srun_nil, srun_cons, stepK_grd, fin_ret, sk_mv, sk_take, sk_give, sk_pick, sk_bin, sk_lenL, get_mk, raw_slot, raw_lit, put_some, wb_nil, ev_mv, ev_take, ev_give, ev_pick, bin_lss, bin_leq, bin_geq, ro_int, ro_bool, got_int, List.map_cons, List.map_nil, List.getD_cons_zero, List.getD_cons_succ, List.set_cons_zero, List.set_cons_succ, List.length_cons, List.length_nil, List.replicate_succ, List.replicate_zero, List.cons_append, List.nil_append, and_true, Bool.false_eq_true, ↓reduceIte, Nat.zero_add, ge_iff_le]
      exact ⟨[], .inr ⟨by simp, by simp, rfl, rfl⟩⟩
    · have hdj : decide ((j : Int) < (zs.length : Int)) = true := by simp; omega
      have hia : j < zs.length := by omega
      have hga := rdL_at (f := SV.int .i64) hia
      have hcs : c = .sl (zs.map (.int .i64)) zs.length .ro := by
        rcases hc with ⟨_, rfl⟩ | h
        · simp at hia
        · exact h
      have hsa : (zs.map (SV.int .i64)).length = zs.length := by simp
      clear hla' hgot' hexc' hflg' hro'
      subst hcs
      simp (maxSteps := 2000000) (disch := first | omega | (simp only [List.length_append, List.length_cons, List.length_nil, List.length_map] <;> omega)) only [hdj, hga, Int.toNat_natCast, exc_int, exc_ptr, swp_seq, swp_reg, swp_skip, swp_block, swp_cond, seqK_n, condK_t, evK_some, appK_eq, srun_nil, srun_cons, stepK_call, sk_mv, sk_bin, sk_idxA, sk_load, sk_lenL, get_mk, raw_slot, put_some, wb_nil, ev_mv, ev_lenL, bin_lss, ev_loadE, idxA_ro, ro_int, ro_ptr, ro_ro, got_int, got_ptr, pubs, pubsFrom, List.map_cons, List.map_nil, List.getD_cons_zero, List.getD_cons_succ, List.set_cons_zero, List.set_cons_succ, List.length_cons, List.length_nil, List.replicate_succ, List.replicate_zero, List.cons_append, List.nil_append, Bool.false_eq_true, Option.map_some, ↓reduceIte, Nat.mul_one, Nat.zero_add]
      refine callK_intro (c22 _) ?_
      simp (maxSteps := 2000000) (disch := first | omega | (simp only [List.length_append, List.length_cons, List.length_nil, List.length_map] <;> omega)) only [hga, grd_t, Int.toNat_natCast, exc_int, exc_ptr, evK_some, appK_eq, appC_eq, grd_t, srun_cons, stepK_call, stepK_grd, sk_mv, sk_bin, sk_idxA, sk_load, get_mk, raw_slot, raw_lit, put_some, wb_nil, ev_mv, bin_neq, ev_loadE, idxA_ro, ro_int, ro_bool, ro_ptr, ro_ro, got_int, got_ptr, pubs, pubsFrom, List.map_cons, List.map_nil, List.getD_cons_zero, List.getD_cons_succ, List.set_cons_zero, List.set_cons_succ, Bool.false_eq_true, Option.map_some, ↓reduceIte, Nat.mul_one, bne_self_eq_false]
      refine callK_intro (c24 _) ?_
      simp (maxSteps := 2000000) (disch := first | omega | (simp only [List.length_append, List.length_cons, List.length_nil, List.length_map] <;> omega)) only [hga, grd_t, ev_pick, Int.toNat_natCast, exc_int, exc_ptr, evK_some, appK_eq, appC_eq, grd_t, srun_cons, stepK_call, stepK_grd, sk_mv, sk_pick, sk_bin, sk_idxA, sk_load, get_mk, raw_slot, raw_lit, put_some, wb_nil, ev_mv, ev_pick, bin_neqS, ev_loadE, idxA_ro, ro_int, ro_bool, ro_ptr, ro_ro, got_int, got_ptr, pubs, pubsFrom, List.map_cons, List.map_nil, List.getD_cons_zero, List.getD_cons_succ, List.set_cons_zero, List.set_cons_succ, Bool.false_eq_true, Option.map_some, ↓reduceIte, Nat.mul_one, Bool.not_true, beq_self_eq_true]
      refine callK_intro (c27 _ _) ?_
      simp (maxSteps := 2000000) (disch := first | omega | (simp only [List.length_append, List.length_cons, List.length_nil, List.length_map] <;> omega)) only [grd_t, ev_pick, exc_ptr, evK_some, appK_eq, appC_eq, grd_t, srun_cons, stepK_call, stepK_grd, sk_mv, sk_pick, sk_bin, sk_lenL, get_mk, raw_slot, raw_lit, put_some, wb_nil, ev_mv, ev_pick, ev_lenN, bin_neq, ro_bool, ro_ptr, got_ptr, pubs, pubsFrom, List.map_cons, List.map_nil, List.getD_cons_zero, List.getD_cons_succ, List.set_cons_zero, List.set_cons_succ, Bool.false_eq_true, ↓reduceIte, bne_self_eq_false]
      refine callK_intro c29 ?_
      simp (maxSteps := 2000000) (disch := first | omega | (simp only [List.length_append, List.length_cons, List.length_nil, List.length_map] <;> omega)) only [grd_t, ev_pick, exc_ptr, evK_some, appK_eq, appC_eq, grd_t, srun_cons, stepK_call, stepK_grd, sk_mv, sk_pick, sk_bin, get_mk, raw_slot, raw_lit, put_some, wb_nil, ev_mv, ev_pick, bin_neq, ro_int, ro_bool, ro_ptr, got_ptr, pubs, pubsFrom, List.map_cons, List.map_nil, List.getD_cons_zero, List.getD_cons_succ, List.set_cons_zero, List.set_cons_succ, Bool.false_eq_true, ↓reduceIte, bne_self_eq_false]
      refine callK_intro c31 ?_
      simp (maxSteps := 2000000) (disch := first | omega | (simp only [List.length_append, List.length_cons, List.length_nil, List.length_map] <;> omega)) only [grd_t, ev_pick, exc_ptr, evK_some, appK_eq, appC_eq, grd_t, srun_cons, stepK_call, stepK_grd, sk_mv, sk_pick, sk_bin, get_mk, raw_slot, raw_lit, put_some, wb_nil, ev_mv, ev_pick, bin_neq, ro_int, ro_bool, ro_ptr, got_ptr, pubs, pubsFrom, List.map_cons, List.map_nil, List.getD_cons_zero, List.getD_cons_succ, List.set_cons_zero, List.set_cons_succ, Bool.false_eq_true, ↓reduceIte, bne_self_eq_false]
      refine callK_intro c32 ?_
      simp (maxSteps := 2000000) (disch := first | omega | (simp only [List.length_append, List.length_cons, List.length_nil, List.length_map] <;> omega)) only [grd_t, ev_pick, lpK_n, flg_int, swp_reg, swp_skip, swp_cond, seqK_n, blkK_n, condK_f, evK_some, appK_eq, appC_eq, grd_t, srun_nil, srun_cons, stepK_grd, sk_mv, sk_give, sk_pick, sk_bin, get_mk, raw_slot, raw_lit, put_some, wb_nil, ev_mv, ev_give, ev_pick, bin_add, bin_neq, ro_int, ro_bool, List.map_cons, List.map_nil, List.getD_cons_zero, List.getD_cons_succ, List.set_cons_zero, List.set_cons_succ, Bool.false_eq_true, ↓reduceIte, bne_self_eq_false, wrap_i64]
      refine ⟨_, ?_, ⟨j + 1, by omega, rfl⟩, ?_⟩
      · refine Forget.of ?_
        repeat first | exact fg_e | refine fg_d ?_ | refine fg_k rfl ?_
      · show ((zs.length : Int) - ((j + 1 : Nat) : Int)).toNat < ((zs.length : Int) - (j : Int)).toNat
        omega
  · have hd : decide ((i : Int) < 50) = false := by simp; omega
    simp (maxSteps := 2000000) (disch := first | omega | (simp only [List.length_append, List.length_cons, List.length_nil, List.length_map] <;> omega)) only [hd, grd_t, ev_pick, lpK_e, exc_ptr, swp_seq, swp_reg, swp_exit, swp_cond, seqK_n, seqK_e, blkK_e, condK_f, evK_some, appK_eq, grd_t, srun_nil, srun_cons, stepK_call, stepK_grd, sk_mv, sk_pick, sk_bin, get_mk, raw_slot, raw_lit, put_some, wb_nil, ev_mv, ev_pick, bin_lss, ro_int, ro_bool, ro_ptr, got_ptr, pubs, pubsFrom, List.map_cons, List.map_nil, List.getD_cons_zero, List.getD_cons_succ, List.set_cons_zero, List.set_cons_succ, List.length_cons, List.length_nil, List.replicate_succ, List.replicate_zero, List.cons_append, List.nil_append, Bool.false_eq_true, ↓reduceIte, Nat.zero_add]
    refine callK_intro c31 ?_
    simp (maxSteps := 2000000) (disch := first | omega | (simp only [List.length_append, List.length_cons, List.length_nil, List.length_map] <;> omega)) only [hb0, exc_ptr, swp_seq, swp_reg, swp_skip, swp_cond, seqK_n, condK_f, evK_some, appK_eq, appC_eq, srun_nil, srun_cons, stepK_call, sk_mv, sk_bin, get_mk, raw_slot, raw_lit, put_some, wb_nil, ev_mv, bin_eql, ro_ptr, got_ptr, pubs, pubsFrom, List.map_cons, List.map_nil, List.getD_cons_zero, List.getD_cons_succ, List.set_cons_zero, List.set_cons_succ, Bool.false_eq_true, ↓reduceIte]
    refine callK_intro c31 ?_
    simp (maxSteps := 2000000) (disch := first | omega | (simp only [List.length_append, List.length_cons, List.length_nil, List.length_map] <;> omega)) only [flg_int, exc_ptr, swp_seq, swp_reg, seqK_n, evK_some, appK_eq, appC_eq, srun_nil, srun_cons, stepK_call, sk_mv, sk_give, get_mk, raw_slot, put_some, wb_nil, ev_mv, ev_give, ro_int, ro_ptr, got_ptr, pubs, pubsFrom, List.map_cons, List.map_nil, List.getD_cons_zero, List.getD_cons_succ, List.set_cons_zero, List.set_cons_succ, Bool.false_eq_true, ↓reduceIte]
    refine callK_intro c32 ?_
    simp (maxSteps := 2000000) (disch := first | omega | (simp only [List.length_append, List.length_cons, List.length_nil, List.length_map] <;> omega)) only [flg_int, exc_int, swp_seq, swp_reg, swp_block, seqK_n, evK_some, appK_eq, appC_eq, srun_nil, srun_cons, sk_take, sk_give, get_mk, raw_slot, raw_lit, put_some, wb_nil, ev_take, ev_give, ro_int, got_int, List.map_cons, List.map_nil, List.getD_cons_zero, List.getD_cons_succ, List.set_cons_zero, List.set_cons_succ, Bool.false_eq_true, ↓reduceIte]
    refine swp_lp (fun S => ∃ (j : Nat), j ≤ zs.length ∧
        S = ⟨[v, .int .i64 most, c, .undef, .undef, .undef, .bool false, .bool true, .ptr 0 0, .undef, .int .i64 e, .int .i64 p, .int .i64 j] ++ List.replicate 106 .undef, [mV v p e]⟩)
        (fun S => match S.get 12 with | .int _ k => ((zs.length : Int) - k).toNat | _ => 0)
        ⟨[v, .int .i64 most, c, .undef, .undef, .undef, .bool false, .bool true, .ptr 0 0, .undef, .int .i64 e, .int .i64 p, .int .i64 0] ++ List.replicate 106 .undef, [mV v p e]⟩ ?_ ⟨0, by omega, rfl⟩ ?_
    · refine Forget.of ?_
      repeat first | exact fg_e | refine fg_d ?_ | refine fg_k rfl ?_
    rintro S ⟨j, hj, rfl⟩
    by_cases hjn : j = zs.length
    · have hdj : decide ((j : Int) < (zs.length : Int)) = false := by simp; omega
      simp (maxSteps := 2000000) (disch := first | omega | (simp only [List.length_append, List.length_cons, List.length_nil, List.length_map] <;> omega)) only [hdj, hp0, hpb, hgot, hexc, hla, hro', hla', grd_t, ev_pick, lpK_e, flg_bool, exc_int, swp_seq, swp_reg, swp_ret, swp_exit, swp_cond, seqK_n, seqK_e, blkK_e, condK_f, evK_some, appK_eq, grd_t, srun_nil, srun_cons, stepK_grd, fin_ret, sk_mv, sk_take, sk_give, sk_pick, sk_bin, sk_lenL, get_mk, raw_slot, raw_lit, put_some, wb_nil, ev_mv, ev_take, ev_give, ev_pick, bin_lss, bin_leq, bin_geq, ro_int, ro_bool, got_int, List.map_cons, List.map_nil, List.getD_cons_zero, List.getD_cons_succ, List.set_cons_zero, List.set_cons_succ, List.length_cons, List.length_nil, List.replicate_succ, List.replicate_zero, List.cons_append, List.nil_append, and_true, Bool.false_eq_true, ↓reduceIte, Nat.zero_add, ge_iff_le]
      exact ⟨[], .inr ⟨by simp, by simp, rfl, rfl⟩⟩
    · have hdj : decide ((j : Int) < (zs.length : Int)) = true := by simp; omega
      have hia : j < zs.length := by omega
      have hga := rdL_at (f := SV.int .i64) hia
      have hcs : c = .sl (zs.map (.int .i64)) zs.length .ro := by
        rcases hc with ⟨_, rfl⟩ | h
        · simp at hia
        · exact h
      have hsa : (zs.map (SV.int .i64)).length = zs.length := by simp
      clear hla' hgot' hexc' hflg' hro'
      subst hcs
      simp (maxSteps := 2000000) (disch := first | omega | (simp only [List.length_append, List.length_cons, List.length_nil, List.length_map] <;> omega)) only [hdj, hga, Int.toNat_natCast, exc_int, exc_ptr, swp_seq, swp_reg, swp_skip, swp_block, swp_cond, seqK_n, condK_t, evK_some, appK_eq, srun_nil, srun_cons, stepK_call, sk_mv, sk_bin, sk_idxA, sk_load, sk_lenL, get_mk, raw_slot, put_some, wb_nil, ev_mv, ev_lenL, bin_lss, ev_loadE, idxA_ro, ro_int, ro_ptr, ro_ro, got_int, got_ptr, pubs, pubsFrom, List.map_cons, List.map_nil, List.getD_cons_zero, List.getD_cons_succ, List.set_cons_zero, List.set_cons_succ, List.length_cons, List.length_nil, List.replicate_succ, List.replicate_zero, List.cons_append, List.nil_append, Bool.false_eq_true, Option.map_some, ↓reduceIte, Nat.mul_one, Nat.zero_add]
      refine callK_intro (c22 _) ?_
      simp (maxSteps := 2000000) (disch := first | omega | (simp only [List.length_append, List.length_cons, List.length_nil, List.length_map] <;> omega)) only [hga, grd_t, Int.toNat_natCast, exc_int, exc_ptr, evK_some, appK_eq, appC_eq, grd_t, srun_cons, stepK_call, stepK_grd, sk_mv, sk_bin, sk_idxA, sk_load, get_mk, raw_slot, raw_lit, put_some, wb_nil, ev_mv, bin_neq, ev_loadE, idxA_ro, ro_int, ro_bool, ro_ptr, ro_ro, got_int, got_ptr, pubs, pubsFrom, List.map_cons, List.map_nil, List.getD_cons_zero, List.getD_cons_succ, List.set_cons_zero, List.set_cons_succ, Bool.false_eq_true, Option.map_some, ↓reduceIte, Nat.mul_one, bne_self_eq_false]
      refine callK_intro (c24 _) ?_
      simp (maxSteps := 2000000) (disch := first | omega | (simp only [List.length_append, List.length_cons, List.length_nil, List.length_map] <;> omega)) only [hga, grd_t, ev_pick, Int.toNat_natCast, exc_int, exc_ptr, evK_some, appK_eq, appC_eq, grd_t, srun_cons, stepK_call, stepK_grd, sk_mv, sk_pick, sk_bin, sk_idxA, sk_load, get_mk, raw_slot, raw_lit, put_some, wb_nil, ev_mv, ev_pick, bin_neqS, ev_loadE, idxA_ro, ro_int, ro_bool, ro_ptr, ro_ro, got_int, got_ptr, pubs, pubsFrom, List.map_cons, List.map_nil, List.getD_cons_zero, List.getD_cons_succ, List.set_cons_zero, List.set_cons_succ, Bool.false_eq_true, Option.map_some, ↓reduceIte, Nat.mul_one, Bool.not_true, beq_self_eq_true]
      refine callK_intro (c27 _ _) ?_
      simp (maxSteps := 2000000) (disch := first | omega | (simp only [List.length_append, List.length_cons, List.length_nil, List.length_map] <;> omega)) only [grd_t, ev_pick, exc_ptr, evK_some, appK_eq, appC_eq, grd_t, srun_cons, stepK_call, stepK_grd, sk_mv, sk_pick, sk_bin, sk_lenL, get_mk, raw_slot, raw_lit, put_some, wb_nil, ev_mv, ev_pick, ev_lenN, bin_neq, ro_bool, ro_ptr, got_ptr, pubs, pubsFrom, List.map_cons, List.map_nil, List.getD_cons_zero, List.getD_cons_succ, List.set_cons_zero, List.set_cons_succ, Bool.false_eq_true, ↓reduceIte, bne_self_eq_false]
      refine callK_intro c29 ?_
      simp (maxSteps := 2000000) (disch := first | omega | (simp only [List.length_append, List.length_cons, List.length_nil, List.length_map] <;> omega)) only [grd_t, ev_pick, exc_ptr, evK_some, appK_eq, appC_eq, grd_t, srun_cons, stepK_call, stepK_grd, sk_mv, sk_pick, sk_bin, get_mk, raw_slot, raw_lit, put_some, wb_nil, ev_mv, ev_pick, bin_neq, ro_int, ro_bool, ro_ptr, got_ptr, pubs, pubsFrom, List.map_cons, List.map_nil, List.getD_cons_zero, List.getD_cons_succ, List.set_cons_zero, List.set_cons_succ, Bool.false_eq_true, ↓reduceIte, bne_self_eq_false]
      refine callK_intro c31 ?_
      simp (maxSteps := 2000000) (disch := first | omega | (simp only [List.length_append, List.length_cons, List.length_nil, List.length_map] <;> omega)) only [grd_t, ev_pick, exc_ptr, evK_some, appK_eq, appC_eq, grd_t, srun_cons, stepK_call, stepK_grd, sk_mv, sk_pick, sk_bin, get_mk, raw_slot, raw_lit, put_some, wb_nil, ev_mv, ev_pick, bin_neq, ro_int, ro_bool, ro_ptr, got_ptr, pubs, pubsFrom, List.map_cons, List.map_nil, List.getD_cons_zero, List.getD_cons_succ, List.set_cons_zero, List.set_cons_succ, Bool.false_eq_true, ↓reduceIte, bne_self_eq_false]
      refine callK_intro c32 ?_
      simp (maxSteps := 2000000) (disch := first | omega | (simp only [List.length_append, List.length_cons, List.length_nil, List.length_map] <;> omega)) only [grd_t, ev_pick, lpK_n, flg_int, swp_reg, swp_skip, swp_cond, seqK_n, blkK_n, condK_f, evK_some, appK_eq, appC_eq, grd_t, srun_nil, srun_cons, stepK_grd, sk_mv, sk_give, sk_pick, sk_bin, get_mk, raw_slot, raw_lit, put_some, wb_nil, ev_mv, ev_give, ev_pick, bin_add, bin_neq, ro_int, ro_bool, List.map_cons, List.map_nil, List.getD_cons_zero, List.getD_cons_succ, List.set_cons_zero, List.set_cons_succ, Bool.false_eq_true, ↓reduceIte, bne_self_eq_false, wrap_i64]
      refine ⟨_, ?_, ⟨j + 1, by omega, rfl⟩, ?_⟩
      · refine Forget.of ?_
        repeat first | exact fg_e | refine fg_d ?_ | refine fg_k rfl ?_
      · show ((zs.length : Int) - ((j + 1 : Nat) : Int)).toNat < ((zs.length : Int) - (j : Int)).toNat
        omega
end Go.Sh.F
