/-
  PadOne and PadZeros, in the shadow machine.
-/
import Derived.Test.YtfiigeiajhecoaaT34
set_option linter.unusedSimpArgs false
set_option linter.unusedVariables false
namespace Go.Sh.F
theorem ofInt_u8 (a : UInt8) : BitVec.ofInt 8 (a.toNat : Int) = a.toBitVec := by
  rw [BitVec.ofInt_natCast]
  apply BitVec.eq_of_toNat_eq
  simp
theorem xor8 {st : List Ob} (a b : UInt8) : ev st (.bin .xor) [.int .u8 a.toNat, .int .u8 b.toNat] = some (.int .u8 (a ^^^ b).toNat, [], st) := by
  rw [bin_xor]
  have h : (BitVec.ofInt IntKind.u8.bits (a.toNat : Int) ^^^ BitVec.ofInt IntKind.u8.bits (b.toNat : Int)).toNat = (a ^^^ b).toNat := by
    show (BitVec.ofInt 8 (a.toNat : Int) ^^^ BitVec.ofInt 8 (b.toNat : Int)).toNat = _
    rw [ofInt_u8, ofInt_u8]; rfl
  rw [h]
  have hl : (a ^^^ b).toNat < 256 := (a ^^^ b).toNat_lt
  have hw : IntKind.u8.wrap ((a ^^^ b).toNat : Int) = (a ^^^ b).toNat := by rw [wrap_u8]; omega
  rw [hw]
theorem xor_ne {a b : UInt8} (h : b ≠ 0) : a ^^^ b ≠ a := by
  intro hx
  apply h
  have : a ^^^ (a ^^^ b) = a ^^^ a := by rw [hx]
  simpa [← UInt8.xor_assoc] using this
theorem byte_of {n : Int} (h0 : 0 ≤ n) (h1 : n ≤ 255) : ∃ y : UInt8, n = y.toNat := ⟨UInt8.ofNat n.toNat, by simp only [UInt8.toNat_ofNat']; omega⟩
theorem stripF_cases (s : List UInt8) : stripF s = ([], 4) ∨ ∃ x, stripF s = (x, 0) ∧ padF x = (s, 0) := by
  unfold stripF
  by_cases h : padF (textF ⟨s, 0, 0⟩ s.length).1 = (s, 0)
  · rw [if_pos h]; exact .inr ⟨_, rfl, h⟩
  · rw [if_neg h]; exact .inl rfl
theorem padF_len {x p : List UInt8} (h : padF x = (p, 0)) : x.length ≤ 5116 := Classical.byContradiction fun hn => by
  rw [padF_no hn] at h
  exact absurd (Prod.mk.inj h).2 (by decide)
set_option maxHeartbeats 1000000 in
theorem fOne (s : List UInt8) (at_ by_ : Int) (hs : s.length ≤ 1073741824) (hb0 : 0 ≤ by_) (hb1 : by_ ≤ 255) : swpF O42 sf7 [.str s, .int .i64 at_, .int .u8 by_] [] (fun r _ => r = .bool true) := by
  simp (maxSteps := 2000000) (disch := first | omega | (simp only [List.length_append, List.length_cons, List.length_nil, List.length_map] <;> omega)) only [sf7, flg_bool, swp_seq, swp_reg, seqK_n, evK_some, appK_eq, srun_nil, srun_cons, stepK_call, swpF_eq, sk_give, raw_lit, put_some, wb_nil, ev_give, ro_bool, pubs, pubsFrom, List.map_cons, List.map_nil, List.set_cons_zero, List.set_cons_succ, List.length_cons, List.length_nil, List.replicate_succ, List.replicate_zero, List.cons_append, List.nil_append, Nat.reduceAdd, Nat.reduceSub, Bool.false_eq_true, ↓reduceIte, Nat.zero_add]
  refine callK_intro y34 ?_
  simp (maxSteps := 2000000) (disch := first | omega | (simp only [List.length_append, List.length_cons, List.length_nil, List.length_map] <;> omega)) only [flg_bool, exc_str, swp_seq, swp_reg, seqK_n, evK_some, appK_eq, appC_eq, srun_nil, srun_cons, stepK_call, sk_mv, sk_give, get_mk, raw_slot, put_some, wb_nil, ev_mv, ev_give, ro_bool, ro_str, got_str, pubs, pubsFrom, List.map_cons, List.map_nil, List.getD_cons_zero, List.getD_cons_succ, List.set_cons_zero, List.set_cons_succ, Bool.false_eq_true, ↓reduceIte]
  by_cases h3 : s.length ≤ 5116
  case neg =>
    refine callK_intro (.inl (y35 okSt_nil hs (padF_no h3))) ?_
    by_cases h1 : s.length ≤ 6000
    · have d1 : decide ((6000 : Int) < s.length) = false := by simp; omega
      simp (maxSteps := 2000000) (disch := first | omega | (simp only [List.length_append, List.length_cons, List.length_nil, List.length_map] <;> omega)) only [d1, grd_t, ev_pick, flg_bool, flg_int, flg_str, exc_int, swp_seq, swp_reg, swp_ret, swp_cond, seqK_n, seqK_r, condK_t, evK_some, appK_eq, appC_eq, grd_t, srun_nil, srun_cons, stepK_grd, fin_ret, sk_mv, sk_take, sk_give, sk_pick, sk_bin, sk_lenS, sk_ext, get_mk, raw_slot, raw_lit, put_some, wb_nil, ev_mv, ev_take, ev_give, ev_pick, ev_lenS, ev_ext, bin_neq, bin_gtr, ro_int, ro_bool, ro_str, ro_tup, ro2_int, ro2_str, got_int, List.map_cons, List.map_nil, List.getD_cons_zero, List.getD_cons_succ, List.set_cons_zero, List.set_cons_succ, List.getElem?_cons_zero, List.getElem?_cons_succ, List.length_nil, and_true, Bool.false_eq_true, Option.map_some, ↓reduceIte, reduceCtorEq, Int.reduceBNe, gt_iff_lt]
      exact ⟨_, .same⟩
    · have d1 : decide ((6000 : Int) < s.length) = true := by simp; omega
      simp (maxSteps := 2000000) (disch := first | omega | (simp only [List.length_append, List.length_cons, List.length_nil, List.length_map] <;> omega)) only [d1, grd_t, ev_pick, flg_bool, flg_int, flg_str, swp_seq, swp_reg, swp_ret, swp_cond, seqK_n, seqK_r, condK_t, evK_some, appK_eq, appC_eq, grd_t, srun_nil, srun_cons, stepK_grd, fin_ret, sk_mv, sk_give, sk_pick, sk_bin, sk_lenS, sk_ext, get_mk, raw_slot, raw_lit, put_some, wb_nil, ev_mv, ev_give, ev_pick, ev_lenS, ev_ext, bin_gtr, ro_int, ro_bool, ro_str, ro_tup, ro2_int, ro2_str, List.map_cons, List.map_nil, List.getD_cons_zero, List.getD_cons_succ, List.set_cons_zero, List.set_cons_succ, List.getElem?_cons_zero, List.getElem?_cons_succ, List.length_nil, and_true, Bool.false_eq_true, Option.map_some, ↓reduceIte, reduceCtorEq, gt_iff_lt]
      exact ⟨_, .same⟩
  have d1 : decide ((6000 : Int) < s.length) = false := by simp; omega
  obtain ⟨p, k, hp, hpk, hpl⟩ := padF_ok h3
  obtain ⟨z, hz, z1, z2, z3⟩ := bucket_size h3
  have hpz : p.length ≤ 5120 := by omega
  refine callK_intro (.inl (y35 okSt_nil hs hp)) ?_
  by_cases h4 : at_ < 0
  · have d4 : decide (at_ < 0) = true := by simp; omega
    simp (maxSteps := 2000000) (disch := first | omega | (simp only [List.length_append, List.length_cons, List.length_nil, List.length_map] <;> omega)) only [d1, d4, grd_t, ev_pick, flg_bool, flg_int, flg_str, exc_int, swp_seq, swp_reg, swp_ret, swp_cond, seqK_n, seqK_r, condK_t, evK_some, appK_eq, appC_eq, grd_t, srun_nil, srun_cons, stepK_grd, fin_ret, sk_mv, sk_take, sk_give, sk_pick, sk_bin, sk_lenS, sk_ext, get_mk, raw_slot, raw_lit, put_some, wb_nil, ev_mv, ev_take, ev_give, ev_pick, ev_lenS, ev_ext, bin_neq, bin_lss, bin_gtr, ro_int, ro_bool, ro_str, ro_tup, ro2_int, ro2_str, got_int, List.map_cons, List.map_nil, List.getD_cons_zero, List.getD_cons_succ, List.set_cons_zero, List.set_cons_succ, List.getElem?_cons_zero, List.getElem?_cons_succ, List.length_nil, and_true, Bool.false_eq_true, Option.map_some, ↓reduceIte, reduceCtorEq, bne_self_eq_false, gt_iff_lt]
    exact ⟨_, .same⟩
  have d4 : decide (at_ < 0) = false := by simp; omega
  by_cases h5 : at_ < p.length
  case neg =>
    have d5 : decide ((p.length : Int) ≤ at_) = true := by simp; omega
    simp (maxSteps := 2000000) (disch := first | omega | (simp only [List.length_append, List.length_cons, List.length_nil, List.length_map] <;> omega)) only [d1, d4, d5, grd_t, ev_pick, flg_bool, flg_int, flg_str, exc_int, exc_str, swp_seq, swp_reg, swp_ret, swp_cond, seqK_n, seqK_r, condK_t, evK_some, appK_eq, appC_eq, grd_t, srun_nil, srun_cons, stepK_grd, fin_ret, sk_mv, sk_take, sk_give, sk_pick, sk_bin, sk_lenS, sk_ext, get_mk, raw_slot, raw_lit, put_some, wb_nil, ev_mv, ev_take, ev_give, ev_pick, ev_lenS, ev_ext, bin_neq, bin_lss, bin_gtr, bin_geq, ro_int, ro_bool, ro_str, ro_tup, ro2_int, ro2_str, got_int, got_str, List.map_cons, List.map_nil, List.getD_cons_zero, List.getD_cons_succ, List.set_cons_zero, List.set_cons_succ, List.getElem?_cons_zero, List.getElem?_cons_succ, List.length_nil, and_true, Bool.false_eq_true, Option.map_some, ↓reduceIte, reduceCtorEq, bne_self_eq_false, ge_iff_le, gt_iff_lt]
    exact ⟨_, .same⟩
  have d5 : decide ((p.length : Int) ≤ at_) = false := by simp; omega
  by_cases h6 : by_ = 0
  · subst h6
    simp (maxSteps := 2000000) (disch := first | omega | (simp only [List.length_append, List.length_cons, List.length_nil, List.length_map] <;> omega)) only [d1, d4, d5, grd_t, ev_pick, flg_bool, flg_int, flg_str, exc_int, exc_str, swp_seq, swp_reg, swp_ret, swp_cond, seqK_n, seqK_r, condK_t, evK_some, appK_eq, appC_eq, grd_t, srun_nil, srun_cons, stepK_grd, fin_ret, sk_mv, sk_take, sk_give, sk_pick, sk_bin, sk_lenS, sk_ext, get_mk, raw_slot, raw_lit, put_some, wb_nil, ev_mv, ev_take, ev_give, ev_pick, ev_lenS, ev_ext, bin_eql, bin_neq, bin_lss, bin_gtr, bin_geq, ro_int, ro_bool, ro_str, ro_tup, ro2_int, ro2_str, got_int, got_str, List.map_cons, List.map_nil, List.getD_cons_zero, List.getD_cons_succ, List.set_cons_zero, List.set_cons_succ, List.getElem?_cons_zero, List.getElem?_cons_succ, List.length_nil, and_true, Bool.false_eq_true, Option.map_some, ↓reduceIte, beq_self_eq_true, bne_self_eq_false, ge_iff_le, gt_iff_lt]
    exact ⟨_, .same⟩
  have d6 : (by_ == 0) = false := by simpa using h6
  obtain ⟨y, rfl⟩ := byte_of hb0 hb1
  have hy : y ≠ 0 := by intro h; subst h; exact h6 rfl
  obtain ⟨i, rfl⟩ : ∃ i : Nat, at_ = i := ⟨at_.toNat, by omega⟩
  have hi : i < p.length := by omega
  have hget : (bsv p)[i]? = some (.int .u8 (p[i]).toNat) := bsv_at _ _ _ (List.getElem?_eq_getElem hi)
  obtain ⟨P, hP⟩ : ∃ P, P = p.set i (p[i] ^^^ y) := ⟨_, rfl⟩
  have hset : (bsv p).set i (.int .u8 (p[i] ^^^ y).toNat) = bsv P := by rw [hP]; simp [bsv, List.map_set]
  have hPl : P.length = p.length := by rw [hP]; simp
  have hPne : p ≠ P := by
    intro h
    have h1 : P[i]? = some (p[i] ^^^ y) := by rw [hP, List.getElem?_set_self hi]
    rw [← h, List.getElem?_eq_getElem hi] at h1
    exact xor_ne hy (Option.some.inj h1).symm
  have hpb : (bsv p).length = p.length := bsv_len p
  have hb2 : ev [.cells (bsv P)] .b2s [.slo 0 0 p.length] = some (.str P, [], [.cells (bsv P)]) := b2O_bsv rfl hPl.symm
  have hok : okSt [.cells (bsv P)] := by simp [okSt, obOk, idOks_bsv']
  have hs2b : ev [] .s2b [.str p] = some (.sl (bsv p) p.length (.excl 1), [], []) := ev_s2b (by omega)
  have hso : ∀ l, setOb [Ob.cells (bsv p)] 0 l = [.cells l] := fun _ => rfl
  simp (maxSteps := 2000000) (disch := first | omega | (simp only [List.length_append, List.length_cons, List.length_nil, List.length_map] <;> omega)) only [d1, d4, d5, d6, hi, hs2b, hget, xor8, hset, hpb, hb2, hso, grd_t, ev_pick, Int.toNat_natCast, sk_giveO, ro_slo, ev_giveO_x, flg_int, flg_str, exc_int, exc_str, sk_idxB, idxB_O, swp_seq, swp_reg, swp_skip, swp_cond, seqK_n, condK_f, evK_some, appK_eq, appC_eq, grd_t, srun_nil, srun_cons, stepK_call, stepK_grd, sk_mv, sk_take, sk_give, sk_pick, sk_bin, sk_b2s, sk_s2b, sk_load, sk_store, sk_lenS, sk_ext, get_mk, raw_slot, raw_lit, put_some, put_none, wb_nil, wb_cons, ev_mv, ev_take, ev_give, ev_pick, ev_lenS, ev_ext, bin_eql, bin_neq, bin_lss, bin_gtr, bin_geq, ev_ldP, ldP_some, stP_some, ro_int, ro_bool, ro_str, ro_tup, ro2_int, ro2_str, got_int, got_str, pubs, pubsFrom, List.map_cons, List.map_nil, List.getD_cons_zero, List.getD_cons_succ, List.set_cons_zero, List.set_cons_succ, List.getElem?_cons_zero, List.getElem?_cons_succ, List.length_nil, List.nil_append, Bool.false_eq_true, Option.map_some, ↓reduceIte, Nat.mul_one, Nat.zero_add, bne_self_eq_false, st_int, ge_iff_le, gt_iff_lt]
  rcases stripF_cases P with hf | ⟨x, hf, hx⟩
  · refine callK_intro (.inl (y37 hok (by omega) hf)) ?_
    simp (maxSteps := 2000000) (disch := first | omega | (simp only [List.length_append, List.length_cons, List.length_nil, List.length_map] <;> omega)) only [grd_t, ev_pick, flg_bool, flg_int, flg_str, exc_int, exc_str, swp_seq, swp_reg, swp_ret, swp_cond, seqK_n, seqK_r, condK_t, evK_some, appK_eq, appC_eq, grd_t, srun_nil, srun_cons, stepK_grd, fin_ret, sk_mv, sk_take, sk_give, sk_pick, sk_bin, sk_ext, get_mk, raw_slot, raw_lit, put_some, wb_nil, ev_mv, ev_take, ev_give, ev_pick, ev_ext, bin_eql, bin_neq, bin_eqlS, ro_int, ro_bool, ro_str, ro_tup, ro2_int, ro2_str, got_int, got_str, List.map_cons, List.map_nil, List.getD_cons_zero, List.getD_cons_succ, List.set_cons_zero, List.set_cons_succ, List.getElem?_cons_zero, List.getElem?_cons_succ, List.length_nil, and_true, Bool.false_eq_true, Option.map_some, ↓reduceIte, beq_self_eq_true, Int.reduceBNe]
    exact ⟨[], .inr ⟨by simp, by simp, rfl, rfl⟩⟩
  have hxl := padF_len hx
  have hxs : (x == s) = false := by
    rw [beq_eq_false_iff_ne]
    intro h
    subst h
    rw [hp] at hx
    exact hPne (Prod.mk.inj hx).1
  have e1 : (P == P) = true := by simp
  refine callK_intro (.inl (y37 hok (by omega) hf)) ?_
  simp (maxSteps := 2000000) (disch := first | omega | (simp only [List.length_append, List.length_cons, List.length_nil, List.length_map] <;> omega)) only [flg_int, flg_str, exc_str, swp_seq, swp_reg, swp_skip, swp_cond, seqK_n, condK_f, evK_some, appK_eq, appC_eq, srun_nil, srun_cons, stepK_call, sk_mv, sk_give, sk_bin, sk_ext, get_mk, raw_slot, raw_lit, put_some, wb_nil, ev_mv, ev_give, ev_ext, bin_neq, ro_int, ro_str, ro_tup, ro2_int, ro2_str, got_str, pubs, pubsFrom, List.map_cons, List.map_nil, List.getD_cons_zero, List.getD_cons_succ, List.set_cons_zero, List.set_cons_succ, List.getElem?_cons_zero, List.getElem?_cons_succ, Bool.false_eq_true, Option.map_some, ↓reduceIte, bne_self_eq_false]
  refine callK_intro (.inl (y35 hok (by omega) hx)) ?_
  simp (maxSteps := 2000000) (disch := first | omega | (simp only [List.length_append, List.length_cons, List.length_nil, List.length_map] <;> omega)) only [hb2, e1, hxs, Bool.not_false, grd_t, ev_pick, got_slo, exc_slo, flg_bool, flg_int, flg_str, exc_int, exc_str, swp_seq, swp_reg, swp_ret, seqK_n, evK_some, appK_eq, appC_eq, grd_t, srun_nil, srun_cons, stepK_grd, fin_ret, sk_mv, sk_take, sk_give, sk_pick, sk_bin, sk_b2s, sk_ext, get_mk, raw_slot, raw_lit, put_some, wb_nil, ev_mv, ev_take, ev_give, ev_pick, ev_ext, bin_eql, bin_eqlS, bin_neqS, ro_int, ro_bool, ro_str, ro_tup, ro2_int, ro2_str, got_int, got_str, List.map_cons, List.map_nil, List.getD_cons_zero, List.getD_cons_succ, List.set_cons_zero, List.set_cons_succ, List.getElem?_cons_zero, List.getElem?_cons_succ, List.length_nil, and_true, Bool.false_eq_true, Option.map_some, ↓reduceIte, Bool.not_false, beq_self_eq_true]
  exact ⟨[], .inr ⟨by simp, by simp, rfl, rfl⟩⟩
set_option maxHeartbeats 1000000 in
theorem fZeros (s : List UInt8) (more : Int) (hs : s.length ≤ 1073741824) : swpF O42 sf11 [.str s, .int .i64 more] [] (fun r _ => r = .bool true) := by
  simp (maxSteps := 2000000) (disch := first | omega | (simp only [List.length_append, List.length_cons, List.length_nil, List.length_map] <;> omega)) only [sf11, flg_bool, swp_seq, swp_reg, seqK_n, evK_some, appK_eq, srun_nil, srun_cons, stepK_call, swpF_eq, sk_give, raw_lit, put_some, wb_nil, ev_give, ro_bool, pubs, pubsFrom, List.map_cons, List.map_nil, List.set_cons_zero, List.set_cons_succ, List.length_cons, List.length_nil, List.replicate_succ, List.replicate_zero, List.cons_append, List.nil_append, Nat.reduceAdd, Nat.reduceSub, Bool.false_eq_true, ↓reduceIte, Nat.zero_add]
  refine callK_intro y34 ?_
  by_cases h1 : s.length ≤ 300
  case neg =>
    have d1 : decide ((300 : Int) < s.length) = true := by simp; omega
    simp (maxSteps := 2000000) (disch := first | omega | (simp only [List.length_append, List.length_cons, List.length_nil, List.length_map] <;> omega)) only [d1, grd_t, ev_pick, flg_bool, swp_seq, swp_reg, swp_ret, swp_cond, seqK_n, seqK_r, condK_t, evK_some, appK_eq, appC_eq, grd_t, srun_nil, srun_cons, stepK_grd, fin_ret, sk_mv, sk_give, sk_pick, sk_bin, sk_lenS, get_mk, raw_slot, raw_lit, put_some, wb_nil, ev_mv, ev_give, ev_pick, ev_lenS, bin_gtr, ro_bool, ro_str, List.map_cons, List.map_nil, List.getD_cons_zero, List.getD_cons_succ, List.set_cons_zero, List.set_cons_succ, List.length_nil, and_true, Bool.false_eq_true, ↓reduceIte, reduceCtorEq, gt_iff_lt]
    exact ⟨_, .same⟩
  have d1 : decide ((300 : Int) < s.length) = false := by simp; omega
  by_cases h2 : more < 0
  · have d2 : decide (more < 0) = true := by simp; omega
    simp (maxSteps := 2000000) (disch := first | omega | (simp only [List.length_append, List.length_cons, List.length_nil, List.length_map] <;> omega)) only [d1, d2, grd_t, ev_pick, flg_bool, exc_int, swp_seq, swp_reg, swp_ret, swp_cond, seqK_n, seqK_r, condK_t, evK_some, appK_eq, appC_eq, grd_t, srun_nil, srun_cons, stepK_grd, fin_ret, sk_mv, sk_take, sk_give, sk_pick, sk_bin, sk_lenS, get_mk, raw_slot, raw_lit, put_some, wb_nil, ev_mv, ev_take, ev_give, ev_pick, ev_lenS, bin_lss, bin_gtr, ro_bool, ro_str, got_int, List.map_cons, List.map_nil, List.getD_cons_zero, List.getD_cons_succ, List.set_cons_zero, List.set_cons_succ, List.length_nil, and_true, Bool.false_eq_true, ↓reduceIte, reduceCtorEq, gt_iff_lt]
    exact ⟨_, .same⟩
  have d2 : decide (more < 0) = false := by simp; omega
  by_cases h3 : more ≤ 1500
  case neg =>
    have d3 : decide (1500 < more) = true := by simp; omega
    simp (maxSteps := 2000000) (disch := first | omega | (simp only [List.length_append, List.length_cons, List.length_nil, List.length_map] <;> omega)) only [d1, d2, d3, grd_t, ev_pick, flg_bool, exc_int, swp_seq, swp_reg, swp_ret, swp_cond, seqK_n, seqK_r, condK_t, evK_some, appK_eq, appC_eq, grd_t, srun_nil, srun_cons, stepK_grd, fin_ret, sk_mv, sk_take, sk_give, sk_pick, sk_bin, sk_lenS, get_mk, raw_slot, raw_lit, put_some, wb_nil, ev_mv, ev_take, ev_give, ev_pick, ev_lenS, bin_lss, bin_gtr, ro_bool, ro_str, got_int, List.map_cons, List.map_nil, List.getD_cons_zero, List.getD_cons_succ, List.set_cons_zero, List.set_cons_succ, List.length_nil, and_true, Bool.false_eq_true, ↓reduceIte, gt_iff_lt]
    exact ⟨_, .same⟩
  have d3 : decide (1500 < more) = false := by simp; omega
  simp (maxSteps := 2000000) (disch := first | omega | (simp only [List.length_append, List.length_cons, List.length_nil, List.length_map] <;> omega)) only [d1, d2, d3, grd_t, ev_pick, flg_bool, exc_int, exc_str, swp_seq, swp_reg, swp_skip, swp_cond, seqK_n, condK_f, evK_some, appK_eq, appC_eq, grd_t, srun_nil, srun_cons, stepK_call, stepK_grd, sk_mv, sk_take, sk_give, sk_pick, sk_bin, sk_lenS, get_mk, raw_slot, raw_lit, put_some, wb_nil, ev_mv, ev_take, ev_give, ev_pick, ev_lenS, bin_lss, bin_gtr, ro_bool, ro_str, got_int, got_str, pubs, pubsFrom, List.map_cons, List.map_nil, List.getD_cons_zero, List.getD_cons_succ, List.set_cons_zero, List.set_cons_succ, Bool.false_eq_true, ↓reduceIte, gt_iff_lt]
  obtain ⟨p, k, hp, hpk, hpl⟩ := padF_ok (s := s) (by omega)
  obtain ⟨z, hz, z1, z2, z3⟩ := bucket_size (n := s.length) (by omega)
  have hpz : p.length ≤ 5120 := by omega
  have hsb := strB_len' (s := s) (by omega)
  have hpl2 : p.length = s.length + 4 + k := by rw [hpk, List.length_append, hsb, zer_len]
  have d4 : decide ((p.length : Int) < 4 + s.length) = false := by simp; omega
  obtain ⟨m, rfl⟩ : ∃ m : Nat, more = m := ⟨more.toNat, by omega⟩
  have htk : p.take ((4 + (s.length : Int)).toNat) = strB s := by
    rw [hpk, show (4 + (s.length : Int)).toNat = (strB s).length by omega, List.take_left]
  have hmk := ev_mkz (st := []) (n := (m : Int)) (by omega) (by omega)
  have hzl := zer_len m
  rw [Int.toNat_natCast] at hmk
  have hb3 : ev [] .b2s [.sl (bsv (zer m)) m (.excl 1)] = some (.str (zer m), [], []) := by rw [b2s_bsv, if_pos hzl.symm]
  have hxl : (strB s ++ zer m).length = s.length + 4 + m := by rw [List.length_append, hsb, zer_len]
  have hst : stripF (strB s ++ zer m) = if m = k then (s, 0) else ([], 4) := by
    unfold stripF
    rw [text_pad (by omega), hp, hpk]
    by_cases h : m = k
    · subst h; rw [if_pos rfl, if_pos rfl]
    · rw [if_neg h, if_neg]
      intro hh
      have := congrArg List.length (Prod.mk.inj hh).1
      rw [List.length_append, List.length_append, zer_len, zer_len] at this
      omega
  refine callK_intro (.inl (y35 okSt_nil hs hp)) ?_
  simp (maxSteps := 2000000) (disch := first | omega | (simp only [List.length_append, List.length_cons, List.length_nil, List.length_map] <;> omega)) only [d4, htk, hmk, hb3, bin_addS, grd_t, ev_pick, flg_int, flg_str, exc_str, swp_seq, swp_reg, swp_skip, swp_cond, seqK_n, condK_f, evK_some, appK_eq, appC_eq, grd_t, srun_nil, srun_cons, stepK_call, stepK_grd, sk_mv, sk_take, sk_give, sk_pick, sk_bin, sk_b2s, sk_lenS, sk_slcS, sk_mkS, sk_ext, get_mk, raw_slot, raw_lit, put_some, wb_nil, ev_mv, ev_take, ev_give, ev_pick, ev_lenS, ev_ext, bin_add, bin_neq, bin_lss, slcS_hi, ro_int, ro_bool, ro_str, ro_tup, ro2_int, ro2_str, got_str, pubs, pubsFrom, List.map_cons, List.map_nil, List.getD_cons_zero, List.getD_cons_succ, List.set_cons_zero, List.set_cons_succ, List.getElem?_cons_zero, List.getElem?_cons_succ, Bool.false_eq_true, Option.map_some, ↓reduceIte, bne_self_eq_false, wrap_i64]
  by_cases hm : m = k
  · rw [if_pos hm] at hst
    have e1 : ((((strB s).length + (zer m).length : Nat) : Int) == (p.length : Int)) = true := by rw [hsb, hzl, hpl2, hm]; simp
    have e2 : (s == s) = true := by simp
    refine callK_intro (.inl (y37 okSt_nil (by omega) hst)) ?_
    simp (maxSteps := 2000000) (disch := first | omega | (simp only [List.length_append, List.length_cons, List.length_nil, List.length_map] <;> omega)) only [e1, e2, grd_t, ev_pick, flg_bool, flg_int, flg_str, exc_bool, exc_int, exc_str, swp_seq, swp_reg, swp_ret, seqK_n, evK_some, appK_eq, appC_eq, grd_t, srun_nil, srun_cons, stepK_grd, fin_ret, sk_mv, sk_take, sk_give, sk_pick, sk_bin, sk_eqB, sk_lenS, sk_ext, get_mk, raw_slot, raw_lit, put_some, wb_nil, ev_mv, ev_take, ev_give, ev_pick, ev_eqB, ev_lenS, ev_ext, bin_eql, bin_neq, bin_eqlS, ro_int, ro_bool, ro_str, ro_tup, ro2_int, ro2_str, got_int, got_bool, got_str, List.map_cons, List.map_nil, List.getD_cons_zero, List.getD_cons_succ, List.set_cons_zero, List.set_cons_succ, List.getElem?_cons_zero, List.getElem?_cons_succ, List.length_nil, and_true, Bool.false_eq_true, Option.map_some, ↓reduceIte, beq_self_eq_true, bne_self_eq_false, List.length_append]
    exact ⟨_, .same⟩
  · rw [if_neg hm] at hst
    have e1 : ((((strB s).length + (zer m).length : Nat) : Int) == (p.length : Int)) = false := by
      rw [beq_eq_false_iff_ne]; omega
    refine callK_intro (.inl (y37 okSt_nil (by omega) hst)) ?_
    simp (maxSteps := 2000000) (disch := first | omega | (simp only [List.length_append, List.length_cons, List.length_nil, List.length_map] <;> omega)) only [e1, grd_t, ev_pick, flg_bool, flg_int, flg_str, exc_bool, exc_int, exc_str, swp_seq, swp_reg, swp_ret, seqK_n, evK_some, appK_eq, appC_eq, grd_t, srun_nil, srun_cons, stepK_grd, fin_ret, sk_mv, sk_take, sk_give, sk_pick, sk_bin, sk_eqB, sk_lenS, sk_ext, get_mk, raw_slot, raw_lit, put_some, wb_nil, ev_mv, ev_take, ev_give, ev_pick, ev_eqB, ev_lenS, ev_ext, bin_eql, bin_neq, ro_int, ro_bool, ro_str, ro_tup, ro2_int, ro2_str, got_int, got_bool, got_str, List.map_cons, List.map_nil, List.getD_cons_zero, List.getD_cons_succ, List.set_cons_zero, List.set_cons_succ, List.getElem?_cons_zero, List.getElem?_cons_succ, List.length_nil, and_true, Bool.false_eq_true, Option.map_some, ↓reduceIte, reduceCtorEq, beq_self_eq_true, Int.reduceBEq, Int.reduceBNe, List.length_append]
    exact ⟨_, .same⟩
end Go.Sh.F
