/-
  WireCuts and WireRows, in the shadow machine.
-/
import Derived.Test.YtnlipgehmehmgaaT14
set_option linter.unusedSimpArgs false
set_option linter.unusedVariables false
namespace Go.Sh.F
theorem cut_ok {n : Nat} {s : List UInt8} {rows : List (List UInt8)} {cut : Nat} (hn : n ≤ 4294967295) {B : List UInt8} (hB : B = (be4 n ++ strB s) ++ rowB rows) (hc : cut < B.length) :
    ∃ (a p1 p2 p3 : Nat) (e1 e2 : Int) (x : List UInt8) (y : List (List UInt8)), numF ⟨B.take cut, 0, 0⟩ 4294967295 = ((a : Int), ⟨B.take cut, p1, e1⟩) ∧ textF ⟨B.take cut, p1, e1⟩ 16384 = (x, ⟨B.take cut, p2, e2⟩) ∧ rowF ⟨B.take cut, p2, e2⟩ 256 16384 = (y, ⟨B.take cut, p3, 4⟩) ∧
      p1 ≤ (B.take cut).length ∧ p2 ≤ (B.take cut).length ∧ p3 ≤ (B.take cut).length := by
  have h0 : (B.take cut).drop 0 ++ B.drop cut = be4 n ++ (strB s ++ (rowB rows ++ [])) := by rw [List.drop_zero, List.take_append_drop, hB]; simp
  have hz : B.drop cut ≠ [] := by
    intro h
    have := congrArg List.length h
    rw [List.length_drop] at this
    simp only [List.length_nil] at this
    omega
  generalize B.drop cut = Z at *
  generalize B.take cut = l at *
  obtain ⟨a1, a2⟩ := numC (most := 4294967295) h0 hn (by omega) (by omega)
  by_cases c1 : 4 ≤ (l.drop 0).length
  case neg =>
    rw [if_neg c1] at a1
    have he : (⟨l, 0, 4⟩ : RdS).e ≠ 0 := by simp
    exact ⟨0, 0, 0, 0, 4, 4, [], [], a1, textF_err he, rowF_err he, by omega, by omega, by omega⟩
  rw [if_pos c1] at a1
  have a2 := a2 c1
  have l0 : (l.drop 0).length = l.length - 0 := List.length_drop
  obtain ⟨b1, b2⟩ := textC (most := 16384) a2 (by simp; omega) (by omega)
  have l4 : (l.drop (0 + 4)).length = l.length - (0 + 4) := List.length_drop
  by_cases c2 : (strB s).length ≤ (l.drop (0 + 4)).length
  case neg =>
    rw [if_neg c2] at b1
    have he : (⟨l, 0 + 4, 4⟩ : RdS).e ≠ 0 := by simp
    exact ⟨n, 0 + 4, 0 + 4, 0 + 4, 0, 4, [], [], a1, b1, rowF_err he, by omega, by omega, by omega⟩
  rw [if_pos c2] at b1
  have b2 := b2 c2
  obtain ⟨d1, d2⟩ := rowC (most := 256) (each := 16384) b2 (fun x _ => by simp; omega) (by simp; omega) (by omega)
  by_cases c3 : (rowB rows).length ≤ (l.drop (0 + 4 + (strB s).length)).length
  case pos =>
    have := d2 c3
    exact absurd (List.append_eq_nil_iff.1 this).2 hz
  rw [if_neg c3] at d1
  exact ⟨n, _, _, _, 0, 0, _, _, a1, b1, d1, by omega, by omega, by omega⟩
set_option maxHeartbeats 4000000 in
theorem f10 (n cut : Int) (s : List UInt8) (u : SV) (rows : List (List UInt8)) (hu : rdS u rows) (hsl : s.length ≤ 1099511627776) (hrl : rows.length ≤ 1099511627776) (hsum : sumL rows ≤ 1099511627776) :
    swpF O16 sf10 [.int .i64 n, .str s, u, .int .i64 cut] [] (fun r _ => r = .bool true) := by
  obtain ⟨hro, hgot, hexc, hflg, hla⟩ := rdL_facts hu
  have hfw := wfew (st := []) hu hrl (fun i => by have := sumL_take_le rows i; omega)
  simp (maxSteps := 2000000) (disch := first | omega | (simp only [List.length_append, List.length_cons, List.length_nil, List.length_map] <;> omega)) only [sf10, flg_bool, swp_seq, swp_reg, seqK_n, evK_some, appK_eq, srun_nil, srun_cons, stepK_call, swpF_eq, sk_give, raw_lit, put_some, wb_nil, ev_give, ro_bool, pubs, pubsFrom, List.map_cons, List.map_nil, List.set_cons_zero, List.set_cons_succ, List.length_cons, List.length_nil, List.replicate_succ, List.replicate_zero, List.cons_append, List.nil_append, Nat.reduceAdd, Nat.reduceSub, Bool.false_eq_true, ↓reduceIte, Nat.zero_add]
  refine callK_intro o11 ?_
  simp (maxSteps := 2000000) (disch := first | omega | (simp only [List.length_append, List.length_cons, List.length_nil, List.length_map] <;> omega)) only [hro, hgot, hexc, flg_bool, swp_seq, swp_reg, seqK_n, evK_some, appK_eq, appC_eq, srun_nil, srun_cons, stepK_call, sk_mv, sk_give, get_mk, raw_slot, put_some, wb_nil, ev_mv, ev_give, ro_bool, pubs, pubsFrom, List.map_cons, List.map_nil, List.getD_cons_zero, List.getD_cons_succ, List.set_cons_zero, List.set_cons_succ, Bool.false_eq_true, ↓reduceIte]
  refine callK_intro hfw ?_
  by_cases h1 : rows.length ≤ 300 ∧ sumL rows ≤ 20000
  case neg =>
    have d1 : decide (rows.length ≤ 300 ∧ sumL rows ≤ 20000) = false := by simpa using h1
    simp (maxSteps := 2000000) (disch := first | omega | (simp only [List.length_append, List.length_cons, List.length_nil, List.length_map] <;> omega)) only [d1, grd_t, ev_pick, flg_bool, swp_seq, swp_reg, swp_ret, swp_cond, seqK_n, seqK_r, condK_t, evK_some, appK_eq, appC_eq, grd_t, srun_nil, srun_cons, stepK_grd, fin_ret, sk_mv, sk_give, sk_pick, sk_un, get_mk, raw_slot, raw_lit, put_some, wb_nil, ev_mv, ev_give, ev_pick, ev_not, ro_bool, List.map_cons, List.map_nil, List.getD_cons_zero, List.getD_cons_succ, List.set_cons_zero, List.set_cons_succ, List.length_nil, and_true, Bool.false_eq_true, ↓reduceIte, reduceCtorEq, Bool.not_false]
    exact ⟨_, .same⟩
  have d1 : decide (rows.length ≤ 300 ∧ sumL rows ≤ 20000) = true := by simpa using h1
  by_cases h2 : s.length ≤ 3000
  case neg =>
    have d2 : decide ((3000 : Int) < (s.length : Int)) = true := by simp; omega
    simp (maxSteps := 2000000) (disch := first | omega | (simp only [List.length_append, List.length_cons, List.length_nil, List.length_map] <;> omega)) only [d1, d2, grd_t, ev_pick, flg_bool, exc_str, swp_seq, swp_reg, swp_ret, swp_cond, seqK_n, seqK_r, condK_t, evK_some, appK_eq, appC_eq, grd_t, srun_nil, srun_cons, stepK_grd, fin_ret, sk_mv, sk_take, sk_give, sk_pick, sk_bin, sk_un, sk_lenS, get_mk, raw_slot, raw_lit, put_some, wb_nil, ev_mv, ev_take, ev_give, ev_pick, ev_not, ev_lenS, bin_gtr, ro_bool, got_str, List.map_cons, List.map_nil, List.getD_cons_zero, List.getD_cons_succ, List.set_cons_zero, List.set_cons_succ, List.length_nil, and_true, Bool.false_eq_true, ↓reduceIte, reduceCtorEq, Bool.not_true, gt_iff_lt]
    exact ⟨_, .same⟩
  have d2 : decide ((3000 : Int) < (s.length : Int)) = false := by simp; omega
  by_cases h3 : rows.length ≤ 256
  case neg =>
    have d3 : decide ((256 : Int) < (rows.length : Int)) = true := by simp; omega
    simp (maxSteps := 2000000) (disch := first | omega | (simp only [List.length_append, List.length_cons, List.length_nil, List.length_map] <;> omega)) only [d1, d2, d3, hgot, hexc, hla, grd_t, ev_pick, flg_bool, exc_str, swp_seq, swp_reg, swp_ret, swp_cond, seqK_n, seqK_r, condK_t, evK_some, appK_eq, appC_eq, grd_t, srun_nil, srun_cons, stepK_grd, fin_ret, sk_mv, sk_take, sk_give, sk_pick, sk_bin, sk_un, sk_lenS, sk_lenL, get_mk, raw_slot, raw_lit, put_some, wb_nil, ev_mv, ev_take, ev_give, ev_pick, ev_not, ev_lenS, bin_gtr, ro_bool, got_str, List.map_cons, List.map_nil, List.getD_cons_zero, List.getD_cons_succ, List.set_cons_zero, List.set_cons_succ, List.length_nil, and_true, Bool.false_eq_true, ↓reduceIte, Bool.not_true, gt_iff_lt]
    exact ⟨_, .same⟩
  have d3 : decide ((256 : Int) < (rows.length : Int)) = false := by simp; omega
  have cn := clampN_le n
  have l4 : (be4 (clampN n)).length = 4 := rfl
  have ls := strB_len s
  have lr := rowB_len rows
  obtain ⟨A, hA⟩ : ∃ A, A = be4 (clampN n) := ⟨_, rfl⟩
  have c13 := w13n (st := []) n
  rw [← hA] at c13 l4
  have c14 := w14 (st := []) (k := 4) s l4.symm (by omega)
  have lA : (A ++ strB s).length = 4 + (strB s).length := by rw [List.length_append, l4]
  have c15 := w15 (st := []) (k := 4 + (strB s).length) hu lA.symm (by omega)
  obtain ⟨B, hB⟩ : ∃ B, B = A ++ strB s ++ rowB rows := ⟨_, rfl⟩
  have lB : B.length ≤ 10000000 := by rw [hB, List.length_append, lA]; omega
  rw [← hB] at c15
  simp (maxSteps := 2000000) (disch := first | omega | (simp only [List.length_append, List.length_cons, List.length_nil, List.length_map] <;> omega)) only [d1, d2, d3, hgot, hexc, hla, grd_t, ev_pick, flg_bool, exc_int, exc_str, exc_nilS, swp_seq, swp_reg, swp_skip, swp_cond, seqK_n, condK_f, evK_some, appK_eq, appC_eq, grd_t, srun_nil, srun_cons, stepK_call, stepK_grd, sk_mv, sk_take, sk_give, sk_pick, sk_bin, sk_un, sk_lenS, sk_lenL, get_mk, raw_slot, raw_lit, put_some, wb_nil, ev_mv, ev_take, ev_give, ev_pick, ev_not, ev_lenS, bin_gtr, ro_int, ro_bool, got_int, got_str, got_nilS, pubs, pubsFrom, List.map_cons, List.map_nil, List.getD_cons_zero, List.getD_cons_succ, List.set_cons_zero, List.set_cons_succ, Bool.false_eq_true, ↓reduceIte, Bool.not_true, gt_iff_lt]
  refine callK_intro c13 ?_
  simp (maxSteps := 2000000) (disch := first | omega | (simp only [List.length_append, List.length_cons, List.length_nil, List.length_map] <;> omega)) only [exc_str, exc_excl, evK_some, appK_eq, appC_eq, srun_cons, stepK_call, sk_mv, get_mk, raw_slot, put_some, wb_nil, ev_mv, ro_str, got_excl, got_str, pub_excl, pubs, pubsFrom, List.map_cons, List.map_nil, List.getD_cons_zero, List.getD_cons_succ, List.set_cons_zero, List.set_cons_succ, Bool.false_eq_true, ↓reduceIte]
  refine callK_intro c14 ?_
  simp (maxSteps := 2000000) (disch := first | omega | (simp only [List.length_append, List.length_cons, List.length_nil, List.length_map] <;> omega)) only [hro, hgot, hexc, exc_excl, evK_some, appK_eq, appC_eq, srun_cons, stepK_call, sk_mv, get_mk, raw_slot, put_some, wb_nil, wb_cons, ev_mv, got_excl, pub_excl, pubs, pubsFrom, List.map_cons, List.map_nil, List.getD_cons_zero, List.getD_cons_succ, List.set_cons_zero, List.set_cons_succ, List.getElem?_cons_zero, Bool.false_eq_true, ↓reduceIte]
  refine callK_intro c15 ?_
  by_cases h4 : cut < 0
  case pos =>
    have d4 : decide (cut < 0) = true := by simp; omega
    simp (maxSteps := 2000000) (disch := first | omega | (simp only [List.length_append, List.length_cons, List.length_nil, List.length_map] <;> omega)) only [d4, grd_t, ev_pick, flg_bool, flg_excl, swp_seq, swp_reg, swp_ret, swp_cond, seqK_n, seqK_r, condK_t, evK_some, appK_eq, appC_eq, grd_t, srun_nil, srun_cons, stepK_grd, fin_ret, sk_mv, sk_give, sk_pick, sk_bin, get_mk, raw_slot, raw_lit, put_some, wb_nil, wb_cons, ev_mv, ev_give, ev_pick, bin_lss, ro_int, ro_bool, ro_excl, List.map_cons, List.map_nil, List.getD_cons_zero, List.getD_cons_succ, List.set_cons_zero, List.set_cons_succ, List.getElem?_cons_zero, List.length_nil, and_true, Bool.false_eq_true, ↓reduceIte, reduceCtorEq]
    exact ⟨_, .same⟩
  have d4 : decide (cut < 0) = false := by simp; omega
  obtain ⟨ct, rfl⟩ : ∃ ct : Nat, cut = (ct : Int) := ⟨cut.toNat, by omega⟩
  by_cases h5 : ct < B.length
  case neg =>
    have d5 : decide ((B.length : Int) ≤ (ct : Int)) = true := by simp; omega
    simp (maxSteps := 2000000) (disch := first | omega | (simp only [List.length_append, List.length_cons, List.length_nil, List.length_map] <;> omega)) only [d4, d5, grd_t, ev_pick, flg_bool, flg_excl, exc_int, exc_excl, swp_seq, swp_reg, swp_ret, swp_cond, seqK_n, seqK_r, condK_t, evK_some, appK_eq, appC_eq, grd_t, srun_nil, srun_cons, stepK_grd, fin_ret, sk_mv, sk_take, sk_give, sk_pick, sk_bin, sk_lenL, get_mk, raw_slot, raw_lit, put_some, wb_nil, wb_cons, ev_mv, ev_take, ev_give, ev_pick, ev_lenL, bin_lss, bin_geq, ro_int, ro_bool, ro_excl, got_excl, got_int, pub_excl, List.map_cons, List.map_nil, List.getD_cons_zero, List.getD_cons_succ, List.set_cons_zero, List.set_cons_succ, List.getElem?_cons_zero, List.length_nil, and_true, Bool.false_eq_true, ↓reduceIte, ge_iff_le]
    exact ⟨_, .same⟩
  have d5 : decide ((B.length : Int) ≤ (ct : Int)) = false := by simp; omega
  obtain ⟨a, p1, p2, p3, e1, e2, x, y, i1, i2, i3, i4, i5, i6⟩ := cut_ok (cut := ct) cn (B := B) (by rw [hB, hA]) h5
  have lt : (B.take ct).length = ct := by simp; omega
  have hbl := bsv_len B
  have htk : (bsv B).take ct = bsv (B.take ct) := bsv_take _ _
  generalize B.take ct = l at *
  have hv : rdv (.sl (bsv l) ct .ro) l := .inr (by rw [lt])
  have ll : l.length ≤ 1099511627776 := by omega
  have hle : decide ((p3 : Int) ≤ (ct : Int)) = true := by simp; omega
  have hend : endF ⟨l, p3, 4⟩ = ⟨l, p3, 4⟩ := endF_err (by simp)
  simp (maxSteps := 2000000) (disch := first | omega | (simp only [List.length_append, List.length_cons, List.length_nil, List.length_map] <;> omega)) only [d4, d5, htk, grd_t, ev_pick, Int.toNat_natCast, flg_excl, exc_int, exc_ro, exc_excl, swp_seq, swp_reg, swp_skip, swp_cond, seqK_n, condK_f, evK_some, appK_eq, appC_eq, grd_t, srun_nil, srun_cons, stepK_call, stepK_grd, sk_mv, sk_take, sk_give, sk_pick, sk_bin, sk_lenL, sk_slcL, get_mk, raw_slot, raw_lit, put_some, wb_nil, wb_cons, ev_mv, ev_take, ev_give, ev_pick, ev_lenL, bin_lss, bin_geq, slcL_hi_own, ro_int, ro_bool, ro_own, ro_excl, got_excl, got_roo, got_int, pub_excl, pubs, pubsFrom, List.map_cons, List.map_nil, List.getD_cons_zero, List.getD_cons_succ, List.set_cons_zero, List.set_cons_succ, List.getElem?_cons_zero, Bool.false_eq_true, ↓reduceIte, Nat.mul_one, ge_iff_le]
  refine callK_intro (v21 (st := []) hv ll) ?_
  simp (maxSteps := 2000000) (disch := first | omega | (simp only [List.length_append, List.length_cons, List.length_nil, List.length_map] <;> omega)) only [flg_ptr, exc_int, exc_ptr, swp_seq, swp_reg, swp_skip, swp_cond, seqK_n, condK_f, evK_some, appK_eq, appC_eq, srun_nil, srun_cons, stepK_call, sk_mv, sk_give, sk_eqN, get_mk, raw_slot, raw_lit, put_some, wb_nil, ev_mv, ev_give, ev_eqNp2, ro_ptr, got_int, got_ptr, pubs, pubsFrom, List.map_cons, List.map_nil, List.getD_cons_zero, List.getD_cons_succ, List.set_cons_zero, List.set_cons_succ, List.length_nil, List.nil_append, Bool.false_eq_true, ↓reduceIte]
  refine callK_intro (v22 (p := 0) (e := 0) (id := 0) hv ll (by omega) rfl i1 rfl) ?_
  simp (maxSteps := 2000000) (disch := first | omega | (simp only [List.length_append, List.length_cons, List.length_nil, List.length_map] <;> omega)) only [exc_int, exc_ptr, swp_seq, swp_reg, seqK_n, evK_some, appK_eq, appC_eq, srun_nil, srun_cons, stepK_call, sk_mv, get_mk, raw_slot, raw_lit, put_some, wb_nil, ev_mv, ro_ptr, got_int, got_ptr, pubs, pubsFrom, List.map_cons, List.map_nil, List.getD_cons_zero, List.getD_cons_succ, List.set_cons_zero, List.set_cons_succ, Bool.false_eq_true, ↓reduceIte]
  refine callK_intro (v24 (id := 0) hv ll i4 rfl i2 rfl) ?_
  simp (maxSteps := 2000000) (disch := first | omega | (simp only [List.length_append, List.length_cons, List.length_nil, List.length_map] <;> omega)) only [exc_int, exc_ptr, swp_seq, swp_reg, seqK_n, evK_some, appK_eq, appC_eq, srun_nil, srun_cons, stepK_call, sk_mv, get_mk, raw_slot, raw_lit, put_some, wb_nil, ev_mv, ro_ptr, got_int, got_ptr, pubs, pubsFrom, List.map_cons, List.map_nil, List.getD_cons_zero, List.getD_cons_succ, List.set_cons_zero, List.set_cons_succ, Bool.false_eq_true, ↓reduceIte]
  refine callK_intro (v27 (id := 0) hv ll i5 rfl i3 rfl) ?_
  simp (maxSteps := 2000000) (disch := first | omega | (simp only [List.length_append, List.length_cons, List.length_nil, List.length_map] <;> omega)) only [grd_t, exc_ptr, swp_seq, swp_reg, seqK_n, evK_some, appK_eq, appC_eq, grd_t, srun_nil, srun_cons, stepK_call, stepK_grd, sk_mv, sk_take, get_mk, raw_slot, put_some, wb_nil, ev_mv, ev_take, ro_bool, got_ptr, pubs, pubsFrom, List.map_cons, List.map_nil, List.getD_cons_zero, List.getD_cons_succ, List.set_cons_zero, List.set_cons_succ, Bool.false_eq_true, ↓reduceIte]
  refine callK_intro (v31 (p := p3) rfl) ?_
  simp (maxSteps := 2000000) (disch := first | omega | (simp only [List.length_append, List.length_cons, List.length_nil, List.length_map] <;> omega)) only [grd_t, ev_pick, exc_ptr, evK_some, appK_eq, appC_eq, grd_t, srun_cons, stepK_call, stepK_grd, sk_mv, sk_take, sk_pick, sk_bin, get_mk, raw_slot, raw_lit, put_some, wb_nil, ev_mv, ev_take, ev_pick, bin_eql, ro_bool, got_ptr, pubs, pubsFrom, List.map_cons, List.map_nil, List.getD_cons_zero, List.getD_cons_succ, List.set_cons_zero, List.set_cons_succ, Bool.false_eq_true, ↓reduceIte, beq_self_eq_true]
  refine callK_intro (v29 (id := 0) hv rfl hend rfl) ?_
  simp (maxSteps := 2000000) (disch := first | omega | (simp only [List.length_append, List.length_cons, List.length_nil, List.length_map] <;> omega)) only [grd_t, ev_pick, exc_ptr, evK_some, appK_eq, appC_eq, grd_t, srun_cons, stepK_call, stepK_grd, sk_mv, sk_take, sk_pick, sk_bin, get_mk, raw_slot, raw_lit, put_some, wb_nil, ev_mv, ev_take, ev_pick, bin_eql, ro_bool, got_ptr, pubs, pubsFrom, List.map_cons, List.map_nil, List.getD_cons_zero, List.getD_cons_succ, List.set_cons_zero, List.set_cons_succ, Bool.false_eq_true, ↓reduceIte, beq_self_eq_true]
  refine callK_intro (v32 (p := p3) rfl) ?_
  simp (maxSteps := 2000000) (disch := first | omega | (simp only [List.length_append, List.length_cons, List.length_nil, List.length_map] <;> omega)) only [hle, grd_t, ev_pick, flg_bool, exc_int, swp_ret, seqK_n, evK_some, appK_eq, appC_eq, grd_t, srun_nil, srun_cons, stepK_grd, fin_ret, sk_take, sk_give, sk_pick, sk_bin, get_mk, raw_slot, raw_lit, put_some, wb_nil, ev_take, ev_give, ev_pick, bin_leq, ro_bool, got_int, List.map_cons, List.map_nil, List.getD_cons_zero, List.getD_cons_succ, List.set_cons_zero, List.set_cons_succ, List.length_nil, and_true, Bool.false_eq_true, ↓reduceIte]
  exact ⟨[], .inr ⟨by simp, by simp, rfl, rfl⟩⟩
/-! WireRows. -/
theorem textsF_err_nil (each : Int) : ∀ (n : Nat) (s : RdS), s.e ≠ 0 → n ≠ 0 → (textsF each n s) = ([], s)
  | 0, s, _, h => absurd rfl h
  | n + 1, s, h, _ => by
    unfold textsF
    rw [textF_err h]
    simp only
    rw [if_pos h]
set_option maxHeartbeats 4000000 in
theorem f9 (v : SV) (b : List UInt8) (most each : Int) (hv : rdv v b) (hbl : b.length ≤ 1099511627776) :
    swpF O16 sf9 [v, .int .i64 most, .int .i64 each] [] (fun r _ => r = .bool true) := by
  obtain ⟨hro, hgot, hexc, hflg, hla⟩ := rdL_facts (f := fun x : UInt8 => .int .u8 x.toNat) hv
  simp (maxSteps := 2000000) (disch := first | omega | (simp only [List.length_append, List.length_cons, List.length_nil, List.length_map] <;> omega)) only [sf9, flg_bool, swp_seq, swp_reg, seqK_n, evK_some, appK_eq, srun_nil, srun_cons, stepK_call, swpF_eq, sk_give, raw_lit, put_some, wb_nil, ev_give, ro_bool, pubs, pubsFrom, List.map_cons, List.map_nil, List.set_cons_zero, List.set_cons_succ, List.length_cons, List.length_nil, List.replicate_succ, List.replicate_zero, List.cons_append, List.nil_append, Nat.reduceAdd, Nat.reduceSub, Bool.false_eq_true, ↓reduceIte, Nat.zero_add]
  refine callK_intro o11 ?_
  simp (maxSteps := 2000000) (disch := first | omega | (simp only [List.length_append, List.length_cons, List.length_nil, List.length_map] <;> omega)) only [hro, hgot, hexc, flg_bool, swp_seq, swp_reg, seqK_n, evK_some, appK_eq, appC_eq, srun_nil, srun_cons, stepK_call, sk_mv, sk_give, get_mk, raw_slot, put_some, wb_nil, ev_mv, ev_give, ro_bool, pubs, pubsFrom, List.map_cons, List.map_nil, List.getD_cons_zero, List.getD_cons_succ, List.set_cons_zero, List.set_cons_succ, Bool.false_eq_true, ↓reduceIte]
  refine callK_intro (v21 (st := []) hv hbl) ?_
  simp (maxSteps := 2000000) (disch := first | omega | (simp only [List.length_append, List.length_cons, List.length_nil, List.length_map] <;> omega)) only [hro, hgot, hexc, flg_ptr, swp_seq, swp_reg, seqK_n, evK_some, appK_eq, appC_eq, srun_nil, srun_cons, stepK_call, sk_mv, sk_give, get_mk, raw_slot, put_some, wb_nil, ev_mv, ev_give, ro_ptr, pubs, pubsFrom, List.map_cons, List.map_nil, List.getD_cons_zero, List.getD_cons_succ, List.set_cons_zero, List.set_cons_succ, List.length_nil, List.nil_append, Bool.false_eq_true, ↓reduceIte]
  refine callK_intro (v21 (st := [mV v 0 0]) hv hbl) ?_
  by_cases h1 : b.length ≤ 4000
  case neg =>
    have d1 : decide ((4000 : Int) < (b.length : Int)) = true := by simp; omega
    simp (maxSteps := 2000000) (disch := first | omega | (simp only [List.length_append, List.length_cons, List.length_nil, List.length_map] <;> omega)) only [d1, hgot, hexc, hla, grd_t, ev_pick, flg_bool, flg_ptr, exc_ptr, swp_seq, swp_reg, swp_ret, swp_cond, seqK_n, seqK_r, condK_t, evK_some, appK_eq, appC_eq, grd_t, srun_nil, srun_cons, stepK_grd, fin_ret, sk_mv, sk_take, sk_give, sk_pick, sk_bin, sk_eqN, sk_lenL, get_mk, raw_slot, raw_lit, put_some, wb_nil, ev_mv, ev_take, ev_give, ev_pick, ev_eqNp2, bin_gtr, ro_bool, ro_ptr, got_ptr, List.map_cons, List.map_nil, List.getD_cons_zero, List.getD_cons_succ, List.set_cons_zero, List.set_cons_succ, List.length_cons, List.length_nil, List.cons_append, List.nil_append, and_true, Bool.false_eq_true, ↓reduceIte, Nat.zero_add, gt_iff_lt]
    exact ⟨[], .inr ⟨by simp, by simp, rfl, rfl⟩⟩
  have d1 : decide ((4000 : Int) < (b.length : Int)) = false := by simp; omega
  have hm : (if (256 : Int) < most then 256 else most) = minI most 256 := rfl
  obtain ⟨n, p1, e1, n1, n2, n3, n4⟩ := numF_spec2 b 0 0 (minI most 256) (by omega)
  obtain ⟨lx, px, ex, r1, r2, r3, r4⟩ := rowF_spec2 b 0 0 most each (by omega)
  have hn256 : e1 = 0 → n ≤ 256 := by
    intro h
    have := (n4 rfl h).2.2.1
    unfold minI at this
    split at this <;> omega
  have hn0 : e1 ≠ 0 → n = 0 := by
    intro h
    unfold numF at n1
    simp only [ne_eq, not_true_eq_false, if_false] at n1
    split at n1
    · simp only [Prod.mk.injEq] at n1; omega
    · split at n1
      · simp only [Prod.mk.injEq] at n1; omega
      · simp only [Prod.mk.injEq, RdS.mk.injEq] at n1; exact absurd n1.2.2.2.symm h
  -- what x comes to
  obtain ⟨T, hT⟩ : ∃ T, T = textsF each n ⟨b, p1, e1⟩ := ⟨_, rfl⟩
  have hrow : (lx, (⟨b, px, ex⟩ : RdS)) = if T.2.e ≠ 0 then ([], { T.2 with p := 0 }) else T := by
    rw [← r1, hT]
    unfold rowF
    rw [n1]
    simp only [Int.toNat_natCast]
    by_cases he : e1 = 0
    · rw [if_neg (by simp [he])]
    · rw [if_pos he, hn0 he]
      unfold textsF
      rw [if_pos he]
  have c27 : O16 27 [.ptr 0 0, .int .i64 most, .int .i64 each] [mV v 0 0, mV v 0 0] (rowV lx) [mV v px ex, mV v 0 0] := v27 (p := 0) (e := 0) (id := 0) hv hbl (by omega) rfl r1 rfl
  clear n4 r1 r3 r4
  have hlc : (rowV lx = .nilS ∧ lx = []) ∨ (rowV lx = .sl (ssv lx) lx.length (.excl 1) ∧ lx ≠ []) := by
    by_cases h : lx = []
    · exact .inl ⟨by rw [rowV, if_pos h], h⟩
    · exact .inr ⟨by rw [rowV, if_neg h], h⟩
  simp (maxSteps := 2000000) (disch := first | omega | (simp only [List.length_append, List.length_cons, List.length_nil, List.length_map] <;> omega)) only [d1, hgot, hexc, hla, grd_t, ev_pick, flg_ptr, exc_int, exc_ptr, swp_seq, swp_reg, swp_skip, swp_cond, seqK_n, condK_f, evK_some, appK_eq, appC_eq, grd_t, srun_nil, srun_cons, stepK_call, stepK_grd, sk_mv, sk_take, sk_give, sk_pick, sk_bin, sk_eqN, sk_lenL, get_mk, raw_slot, raw_lit, put_some, wb_nil, ev_mv, ev_take, ev_give, ev_pick, ev_eqNp2, bin_gtr, ro_int, ro_bool, ro_ptr, got_int, got_ptr, pubs, pubsFrom, List.map_cons, List.map_nil, List.getD_cons_zero, List.getD_cons_succ, List.set_cons_zero, List.set_cons_succ, List.length_cons, List.length_nil, List.cons_append, List.nil_append, Bool.false_eq_true, ↓reduceIte, Nat.zero_add, gt_iff_lt]
  refine callK_intro c27 ?_
  rcases hlc with ⟨hlv, hlx⟩ | ⟨hlv, hlx⟩
  all_goals
    simp (maxSteps := 2000000) (disch := first | omega | (simp only [List.length_append, List.length_cons, List.length_nil, List.length_map] <;> omega)) only [hlv, hm, flg_nilS, flg_excl, exc_int, exc_ptr, swp_seq, swp_reg, seqK_n, evK_some, appK_eq, appC_eq, srun_nil, srun_cons, stepK_call, sk_mv, sk_give, sk_min, get_mk, raw_slot, raw_lit, put_some, wb_nil, wb_cons, ev_mv, ev_give, ev_min, ro_int, ro_nilS, ro_ptr, ro_excl, got_int, got_ptr, pubs, pubsFrom, List.map_cons, List.map_nil, List.getD_cons_zero, List.getD_cons_succ, List.set_cons_zero, List.set_cons_succ, List.getElem?_cons_zero, Bool.false_eq_true, ↓reduceIte]
    refine callK_intro (v22 (p := 0) (e := 0) (id := 1) hv hbl (by omega) rfl n1 rfl) ?_
    simp (maxSteps := 2000000) (disch := first | omega | (simp only [List.length_append, List.length_cons, List.length_nil, List.length_map] <;> omega)) only [flg_int, exc_int, exc_nilS, swp_seq, swp_reg, swp_block, seqK_n, evK_some, appK_eq, appC_eq, srun_nil, srun_cons, sk_take, sk_give, get_mk, raw_slot, raw_lit, put_some, wb_nil, ev_take, ev_give, ro_int, got_int, got_nilS, List.map_cons, List.map_nil, List.getD_cons_zero, List.getD_cons_succ, List.set_cons_zero, List.set_cons_succ, Bool.false_eq_true, ↓reduceIte]
    refine swp_lp (fun S => ∃ (i q : Nat) (e : Int) (acc : List (List UInt8)) (av lv : SV), av = rowV acc ∧ rowV lx = lv ∧ i ≤ n ∧ acc.length = i ∧ q ≤ b.length ∧
        (e = 0 → T.2 = (textsF each (n - i) ⟨b, q, 0⟩).2 ∧ (T.2.e = 0 → T.1 = acc ++ (textsF each (n - i) ⟨b, q, 0⟩).1)) ∧ (e ≠ 0 → T.2 = ⟨b, q, e⟩) ∧
        S = ⟨[v, .int .i64 most, .int .i64 each, .undef, .undef, .undef, .bool false, .bool true, .ptr 0 0, .ptr 1 0, lv, .int .i64 n, av, .int .i64 i] ++ List.replicate 94 .undef, [mV v px ex, mV v q e]⟩)
        (fun S => match S.get 13 with | .int _ k => ((n : Int) - k).toNat | _ => 0)
        _ ?_ ⟨0, p1, e1, [], _, _, rfl, hlv, by omega, rfl, n2, fun he => ?_, fun he => ?_, rfl⟩ ?_
    · rw [rowV_nil]
      refine Forget.of ?_
      repeat first | exact fg_e | refine fg_d ?_ | refine fg_k rfl ?_
    · rw [hT, he]; exact ⟨rfl, fun _ => rfl⟩
    · rw [hT, hn0 he]; rfl
    rintro S ⟨i, q, e, acc, av, lv, rfl, rfl, hi, hacc, hq, hI0, hI1, rfl⟩
    by_cases hin : i < n
    · have hd : decide ((i : Int) < (n : Int)) = true := by simp; omega
      by_cases he : e = 0
      · subst he
        obtain ⟨hI2, hI3⟩ := hI0 rfl
        obtain ⟨x, q', e', t1, t2, t3, t4⟩ := textF_spec2 b q 0 each hq
        have hstep : n - i = (n - (i + 1)) + 1 := by omega
        rw [hstep] at hI2 hI3
        unfold textsF at hI2 hI3
        rw [t1] at hI2 hI3
        simp only at hI2 hI3
        have hn2 : n ≤ 256 := by
          by_cases h : e1 = 0
          · exact hn256 h
          · have := hn0 h; omega
        obtain ⟨wb, happ, hwb⟩ := app_rowV (st := [mV v px ex, mV v q' e']) (z := [.str []]) (l := acc) (x := x) (f := .excl 1) (by omega)
        rw [rowV_app] at happ
        simp (maxSteps := 2000000) (disch := first | omega | (simp only [List.length_append, List.length_cons, List.length_nil, List.length_map] <;> omega)) only [hd, hlv, grd_t, exc_ptr, swp_seq, swp_reg, evK_some, appK_eq, grd_t, srun_cons, stepK_call, stepK_grd, sk_mv, sk_take, sk_bin, get_mk, raw_slot, put_some, wb_nil, ev_mv, ev_take, bin_lss, ro_int, ro_bool, got_ptr, pubs, pubsFrom, List.map_cons, List.map_nil, List.getD_cons_zero, List.getD_cons_succ, List.set_cons_zero, List.set_cons_succ, List.length_cons, List.length_nil, List.replicate_succ, List.replicate_zero, List.cons_append, List.nil_append, Nat.reduceAdd, Bool.false_eq_true, ↓reduceIte, Nat.zero_add, ne_eq]
        refine callK_intro (v31 (id := 1) (v := v) (p := q) (e := 0) rfl) ?_
        simp (maxSteps := 2000000) (disch := first | omega | (simp only [List.length_append, List.length_cons, List.length_nil, List.length_map] <;> omega)) only [grd_t, ev_pick, exc_int, exc_ptr, swp_seq, swp_reg, swp_skip, swp_block, swp_cond, seqK_n, condK_t, evK_some, appK_eq, appC_eq, grd_t, srun_nil, srun_cons, stepK_call, stepK_grd, sk_mv, sk_pick, sk_bin, get_mk, raw_slot, raw_lit, put_some, wb_nil, ev_mv, ev_pick, bin_eql, ro_int, ro_bool, ro_ptr, got_int, got_ptr, pubs, pubsFrom, List.map_cons, List.map_nil, List.getD_cons_zero, List.getD_cons_succ, List.set_cons_zero, List.set_cons_succ, Bool.false_eq_true, ↓reduceIte, beq_self_eq_true]
        refine callK_intro (v24 (id := 1) hv hbl hq rfl t1 rfl) ?_
        rcases hwb with rfl | rfl
        all_goals
          simp (maxSteps := 2000000) (disch := first | omega | (simp only [List.length_append, List.length_cons, List.length_nil, List.length_map] <;> omega)) only [happ, lpK_n, flg_int, flg_excl, exc_str, swp_reg, seqK_n, blkK_n, evK_some, appK_eq, appC_eq, srun_nil, srun_cons, sk_mv, sk_give, sk_bin, sk_bsl, sk_app, get_mk, raw_slot, raw_lit, put_some, wb_nil, wb_cons, ev_mv, ev_give, bin_add, ev_bsl, ro_int, ro_excl, got_str, pubs, pubsFrom, List.map_cons, List.map_nil, List.getD_cons_zero, List.getD_cons_succ, List.set_cons_zero, List.set_cons_succ, List.getElem?_cons_zero, List.length_cons, List.length_nil, List.replicate_succ, List.replicate_zero, Nat.reduceLT, and_true, Bool.false_eq_true, Option.map_some, ↓reduceIte, List.all_cons, List.all_nil, Bool.and_self, List.zip_cons_cons, List.zip_nil_right, rep, fillV, wrCells, cellsV, isCell, List.flatten_cons, List.flatten_nil, List.append_nil, decide_true, Nat.mul_one, Nat.zero_add, wrap_i64, Nat.le_refl]
          refine ⟨_, ?_, ⟨i + 1, q', e', acc ++ [x], _, _, (rowV_app acc x).symm, (by first | exact hlv | rfl), by omega, by simp [hacc], t2, fun he' => ?_, fun he' => ?_, rfl⟩, ?_⟩
          · refine Forget.of ?_
            repeat first | exact fg_e | refine fg_d ?_ | refine fg_k rfl ?_
          · rw [if_neg (by simp [he'])] at hI2 hI3
            subst he'
            exact ⟨hI2, fun h => by rw [hI3 h]; simp⟩
          · rw [if_pos he'] at hI2
            exact hI2
          · show ((n : Int) - ((i + 1 : Nat) : Int)).toNat < ((n : Int) - (i : Int)).toNat
            omega
      · have hb0 : (e == 0) = false := by simpa using he
        have hb : (e != 0) = true := by simpa using he
        have hTe := hI1 he
        rw [hTe, if_pos he] at hrow
        simp only [Prod.mk.injEq, RdS.mk.injEq, true_and] at hrow
        obtain ⟨hl0, hpx, hex⟩ := hrow
        first
        | exact absurd hl0 hlx
        | (subst hpx hex
           simp (maxSteps := 2000000) (disch := first | omega | (simp only [List.length_append, List.length_cons, List.length_nil, List.length_map] <;> omega)) only [hd, hlv, grd_t, exc_ptr, swp_seq, swp_reg, evK_some, appK_eq, grd_t, srun_cons, stepK_call, stepK_grd, sk_mv, sk_take, sk_bin, get_mk, raw_slot, put_some, wb_nil, ev_mv, ev_take, bin_lss, ro_int, ro_bool, got_ptr, pubs, pubsFrom, List.map_cons, List.map_nil, List.getD_cons_zero, List.getD_cons_succ, List.set_cons_zero, List.set_cons_succ, List.length_cons, List.length_nil, List.replicate_succ, List.replicate_zero, List.cons_append, List.nil_append, Nat.reduceAdd, Bool.false_eq_true, ↓reduceIte, Nat.zero_add, Int.cast_ofNat_Int, ne_eq]
           refine callK_intro (v31 (id := 1) (v := v) (p := q) (e := ex) rfl) ?_
           simp (maxSteps := 2000000) (disch := first | omega | (simp only [List.length_append, List.length_cons, List.length_nil, List.length_map] <;> omega)) only [hb0, grd_t, ev_pick, lpK_e, exc_ptr, swp_seq, swp_reg, swp_exit, swp_cond, seqK_n, seqK_e, blkK_e, condK_f, evK_some, appK_eq, appC_eq, grd_t, srun_nil, srun_cons, stepK_call, stepK_grd, sk_mv, sk_pick, sk_bin, get_mk, raw_slot, raw_lit, put_some, wb_nil, ev_mv, ev_pick, bin_eql, ro_bool, ro_ptr, got_ptr, pubs, pubsFrom, List.map_cons, List.map_nil, List.getD_cons_zero, List.getD_cons_succ, List.set_cons_zero, List.set_cons_succ, Bool.false_eq_true, ↓reduceIte]
           refine callK_intro (v31 (id := 1) (v := v) (p := q) (e := ex) rfl) ?_
           simp (maxSteps := 2000000) (disch := first | omega | (simp only [List.length_append, List.length_cons, List.length_nil, List.length_map] <;> omega)) only [hb, grd_t, exc_ptr, swp_seq, swp_reg, swp_cond, seqK_n, condK_t, evK_some, appK_eq, appC_eq, grd_t, srun_nil, srun_cons, stepK_call, stepK_grd, sk_mv, sk_take, sk_bin, get_mk, raw_slot, raw_lit, put_some, wb_nil, ev_mv, ev_take, bin_neq, ro_bool, got_ptr, pubs, pubsFrom, List.map_cons, List.map_nil, List.getD_cons_zero, List.getD_cons_succ, List.set_cons_zero, List.set_cons_succ, Bool.false_eq_true, ↓reduceIte]
           refine callK_intro (v31 (id := 0) (v := v) (p := 0) (e := ex) rfl) ?_
           simp (maxSteps := 2000000) (disch := first | omega | (simp only [List.length_append, List.length_cons, List.length_nil, List.length_map] <;> omega)) only [grd_t, exc_ptr, evK_some, appK_eq, appC_eq, grd_t, srun_cons, stepK_call, stepK_grd, sk_take, get_mk, raw_slot, put_some, wb_nil, ev_take, got_ptr, pubs, pubsFrom, List.map_cons, List.map_nil, List.getD_cons_zero, List.getD_cons_succ, List.set_cons_zero, List.set_cons_succ, Bool.false_eq_true, ↓reduceIte]
           refine callK_intro (v31 (id := 1) (v := v) (p := q) (e := ex) rfl) ?_
           simp (maxSteps := 2000000) (disch := first | omega | (simp only [List.length_append, List.length_cons, List.length_nil, List.length_map] <;> omega)) only [grd_t, ev_pick, exc_nilS, exc_ptr, evK_some, appK_eq, appC_eq, grd_t, srun_cons, stepK_call, stepK_grd, sk_mv, sk_take, sk_pick, sk_bin, sk_lenL, get_mk, raw_slot, raw_lit, put_some, wb_nil, ev_mv, ev_take, ev_pick, ev_lenN, bin_eql, ro_bool, got_nilS, got_ptr, pubs, pubsFrom, List.map_cons, List.map_nil, List.getD_cons_zero, List.getD_cons_succ, List.set_cons_zero, List.set_cons_succ, Bool.false_eq_true, ↓reduceIte, beq_self_eq_true]
           refine callK_intro (v32 (id := 0) (v := v) (p := 0) (e := ex) rfl) ?_
           simp (maxSteps := 2000000) (disch := first | omega | (simp only [List.length_append, List.length_cons, List.length_nil, List.length_map] <;> omega)) only [grd_t, ev_pick, flg_bool, swp_ret, seqK_n, seqK_r, evK_some, appK_eq, appC_eq, grd_t, srun_nil, srun_cons, stepK_grd, fin_ret, sk_give, sk_pick, sk_bin, get_mk, raw_slot, raw_lit, put_some, wb_nil, ev_give, ev_pick, bin_eql, ro_bool, List.map_cons, List.map_nil, List.getD_cons_zero, List.getD_cons_succ, List.set_cons_zero, List.set_cons_succ, List.length_nil, and_true, Bool.false_eq_true, ↓reduceIte, beq_self_eq_true, Int.cast_ofNat_Int]
           exact ⟨[], .inr ⟨by simp, by simp, rfl, rfl⟩⟩)
    · have hd : decide ((i : Int) < (n : Int)) = false := by simp; omega
      have him : i = n := by omega
      by_cases he : e = 0
      · subst he
        obtain ⟨hI2, hI3⟩ := hI0 rfl
        rw [him, Nat.sub_self] at hI2 hI3
        have hTe : T.2.e = 0 := by rw [hI2]; rfl
        have hI3 := hI3 hTe
        have hT1 : T.1 = acc := by rw [hI3]; simp [textsF]
        have hT2 : T.2 = ⟨b, q, 0⟩ := hI2
        rw [if_neg (by simp [hTe])] at hrow
        have hl1 : lx = acc := by rw [← hT1, ← hrow]
        have hl2 : (⟨b, px, ex⟩ : RdS) = ⟨b, q, 0⟩ := by rw [← hT2, ← hrow]
        simp only [RdS.mk.injEq, true_and] at hl2
        obtain ⟨rfl, rfl⟩ := hl2
        subst hl1
        have hlen : ((lx.length : Int) == (n : Int)) = true := by simp; omega
        have d26 : decide (lx = lx) = true := by simp
        have c26 : O16 26 [if lx = [] then .nilS else .sl (ssv lx) lx.length .ro, if lx = [] then .nilS else .sl (ssv lx) lx.length .ro] [mV v px 0, mV v px 0] (.bool (decide (lx = lx))) [mV v px 0, mV v px 0] := by
          have hr : rdS (if lx = [] then .nilS else .sl (ssv lx) lx.length .ro) lx := by
            by_cases h : lx = []
            · rw [if_pos h]; exact .inl ⟨rfl, h⟩
            · rw [if_neg h]; exact .inr rfl
          refine w26 hr hr (by omega)
        first
        | rw [if_pos hlx] at c26
        | rw [if_neg hlx] at c26
        have hlen0 : lx = [] → ((0 : Int) == (n : Int)) = true := by intro h; rw [h] at hacc; simp at hacc; simp; omega
        simp (maxSteps := 2000000) (disch := first | omega | (simp only [List.length_append, List.length_cons, List.length_nil, List.length_map] <;> omega)) only [hd, hlv, grd_t, ev_pick, lpK_e, exc_ptr, swp_seq, swp_reg, swp_exit, swp_cond, seqK_n, seqK_e, blkK_e, condK_f, evK_some, appK_eq, grd_t, srun_nil, srun_cons, stepK_call, stepK_grd, sk_mv, sk_pick, sk_bin, get_mk, raw_slot, raw_lit, put_some, wb_nil, ev_mv, ev_pick, bin_lss, ro_int, ro_bool, ro_ptr, got_ptr, pubs, pubsFrom, List.map_cons, List.map_nil, List.getD_cons_zero, List.getD_cons_succ, List.set_cons_zero, List.set_cons_succ, List.length_cons, List.length_nil, List.replicate_succ, List.replicate_zero, List.cons_append, List.nil_append, Nat.reduceAdd, Bool.false_eq_true, ↓reduceIte, Nat.zero_add, ne_eq]
        refine callK_intro (v31 (id := 1) (v := v) (p := px) (e := 0) rfl) ?_
        simp (maxSteps := 2000000) (disch := first | omega | (simp only [List.length_append, List.length_cons, List.length_nil, List.length_map] <;> omega)) only [grd_t, exc_ptr, swp_seq, swp_reg, swp_skip, swp_cond, seqK_n, condK_f, evK_some, appK_eq, appC_eq, grd_t, srun_nil, srun_cons, stepK_call, stepK_grd, sk_mv, sk_take, sk_bin, get_mk, raw_slot, raw_lit, put_some, wb_nil, ev_mv, ev_take, bin_neq, ro_bool, got_ptr, pubs, pubsFrom, List.map_cons, List.map_nil, List.getD_cons_zero, List.getD_cons_succ, List.set_cons_zero, List.set_cons_succ, Bool.false_eq_true, ↓reduceIte, bne_self_eq_false]
        refine callK_intro (v31 (id := 0) (v := v) (p := px) (e := 0) rfl) ?_
        simp (maxSteps := 2000000) (disch := first | omega | (simp only [List.length_append, List.length_cons, List.length_nil, List.length_map] <;> omega)) only [grd_t, ev_pick, exc_ptr, evK_some, appK_eq, appC_eq, grd_t, srun_cons, stepK_call, stepK_grd, sk_mv, sk_take, sk_pick, sk_bin, get_mk, raw_slot, raw_lit, put_some, wb_nil, ev_mv, ev_take, ev_pick, bin_eql, ro_bool, got_ptr, pubs, pubsFrom, List.map_cons, List.map_nil, List.getD_cons_zero, List.getD_cons_succ, List.set_cons_zero, List.set_cons_succ, Bool.false_eq_true, ↓reduceIte, beq_self_eq_true]
        refine callK_intro (v32 (id := 0) (v := v) (p := px) (e := 0) rfl) ?_
        simp (maxSteps := 2000000) (disch := first | omega | (simp only [List.length_append, List.length_cons, List.length_nil, List.length_map] <;> omega)) only [grd_t, exc_ptr, evK_some, appK_eq, appC_eq, grd_t, srun_cons, stepK_call, stepK_grd, sk_take, get_mk, raw_slot, put_some, wb_nil, ev_take, got_ptr, pubs, pubsFrom, List.map_cons, List.map_nil, List.getD_cons_zero, List.getD_cons_succ, List.set_cons_zero, List.set_cons_succ, Bool.false_eq_true, ↓reduceIte]
        refine callK_intro (v32 (id := 1) (v := v) (p := px) (e := 0) rfl) ?_
        simp (maxSteps := 2000000) (disch := first | omega | (simp only [List.length_append, List.length_cons, List.length_nil, List.length_map] <;> omega)) only [grd_t, ev_pick, exc_nilS, exc_ro, exc_excl, evK_some, appK_eq, appC_eq, grd_t, srun_cons, stepK_call, stepK_grd, sk_mv, sk_take, sk_pick, sk_bin, get_mk, raw_slot, raw_lit, put_some, wb_nil, wb_cons, ev_mv, ev_take, ev_pick, bin_eql, ro_bool, got_excl, got_roo, got_nilS, pub_excl, pubs, pubsFrom, List.map_cons, List.map_nil, List.getD_cons_zero, List.getD_cons_succ, List.set_cons_zero, List.set_cons_succ, List.getElem?_cons_zero, Bool.false_eq_true, ↓reduceIte, beq_self_eq_true]
        refine callK_intro c26 ?_
        first
        | simp (maxSteps := 2000000) (disch := first | omega | (simp only [List.length_append, List.length_cons, List.length_nil, List.length_map] <;> omega)) only [hlen0 hlx, grd_t, ev_pick, flg_bool, exc_int, exc_nilS, swp_ret, seqK_n, evK_some, appK_eq, appC_eq, grd_t, srun_nil, srun_cons, stepK_grd, fin_ret, sk_mv, sk_take, sk_give, sk_pick, sk_bin, sk_lenL, get_mk, raw_slot, raw_lit, put_some, wb_nil, ev_mv, ev_take, ev_give, ev_pick, ev_lenN, bin_eql, ro_bool, got_int, got_nilS, List.map_cons, List.map_nil, List.getD_cons_zero, List.getD_cons_succ, List.set_cons_zero, List.set_cons_succ, List.length_nil, and_true, Bool.false_eq_true, ↓reduceIte, decide_true]
        | simp (maxSteps := 2000000) (disch := first | omega | (simp only [List.length_append, List.length_cons, List.length_nil, List.length_map] <;> omega)) only [hlen, grd_t, ev_pick, flg_bool, exc_int, exc_own, swp_ret, seqK_n, evK_some, appK_eq, appC_eq, grd_t, srun_nil, srun_cons, stepK_grd, fin_ret, sk_mv, sk_take, sk_give, sk_pick, sk_bin, sk_lenL, get_mk, raw_slot, raw_lit, put_some, wb_nil, ev_mv, ev_take, ev_give, ev_pick, ev_lenL, bin_eql, ro_bool, got_own, got_int, List.map_cons, List.map_nil, List.getD_cons_zero, List.getD_cons_succ, List.set_cons_zero, List.set_cons_succ, List.length_nil, and_true, Bool.false_eq_true, ↓reduceIte, decide_true]
        exact ⟨[], .inr ⟨by simp, by simp, rfl, rfl⟩⟩
      · have hb : (e != 0) = true := by simpa using he
        have hTe := hI1 he
        rw [hTe, if_pos he] at hrow
        simp only [Prod.mk.injEq, RdS.mk.injEq, true_and] at hrow
        obtain ⟨hl0, hpx, hex⟩ := hrow
        first
        | exact absurd hl0 hlx
        | (subst hpx hex
           simp (maxSteps := 2000000) (disch := first | omega | (simp only [List.length_append, List.length_cons, List.length_nil, List.length_map] <;> omega)) only [hd, hlv, grd_t, ev_pick, lpK_e, exc_ptr, swp_seq, swp_reg, swp_exit, swp_cond, seqK_n, seqK_e, blkK_e, condK_f, evK_some, appK_eq, grd_t, srun_nil, srun_cons, stepK_call, stepK_grd, sk_mv, sk_pick, sk_bin, get_mk, raw_slot, raw_lit, put_some, wb_nil, ev_mv, ev_pick, bin_lss, ro_int, ro_bool, ro_ptr, got_ptr, pubs, pubsFrom, List.map_cons, List.map_nil, List.getD_cons_zero, List.getD_cons_succ, List.set_cons_zero, List.set_cons_succ, List.length_cons, List.length_nil, List.replicate_succ, List.replicate_zero, List.cons_append, List.nil_append, Nat.reduceAdd, Bool.false_eq_true, ↓reduceIte, Nat.zero_add, Int.cast_ofNat_Int, ne_eq]
           refine callK_intro (v31 (id := 1) (v := v) (p := q) (e := ex) rfl) ?_
           simp (maxSteps := 2000000) (disch := first | omega | (simp only [List.length_append, List.length_cons, List.length_nil, List.length_map] <;> omega)) only [hb, grd_t, exc_ptr, swp_seq, swp_reg, swp_cond, seqK_n, condK_t, evK_some, appK_eq, appC_eq, grd_t, srun_nil, srun_cons, stepK_call, stepK_grd, sk_mv, sk_take, sk_bin, get_mk, raw_slot, raw_lit, put_some, wb_nil, ev_mv, ev_take, bin_neq, ro_bool, got_ptr, pubs, pubsFrom, List.map_cons, List.map_nil, List.getD_cons_zero, List.getD_cons_succ, List.set_cons_zero, List.set_cons_succ, Bool.false_eq_true, ↓reduceIte]
           refine callK_intro (v31 (id := 0) (v := v) (p := 0) (e := ex) rfl) ?_
           simp (maxSteps := 2000000) (disch := first | omega | (simp only [List.length_append, List.length_cons, List.length_nil, List.length_map] <;> omega)) only [grd_t, exc_ptr, evK_some, appK_eq, appC_eq, grd_t, srun_cons, stepK_call, stepK_grd, sk_take, get_mk, raw_slot, put_some, wb_nil, ev_take, got_ptr, pubs, pubsFrom, List.map_cons, List.map_nil, List.getD_cons_zero, List.getD_cons_succ, List.set_cons_zero, List.set_cons_succ, Bool.false_eq_true, ↓reduceIte]
           refine callK_intro (v31 (id := 1) (v := v) (p := q) (e := ex) rfl) ?_
           simp (maxSteps := 2000000) (disch := first | omega | (simp only [List.length_append, List.length_cons, List.length_nil, List.length_map] <;> omega)) only [grd_t, ev_pick, exc_nilS, exc_ptr, evK_some, appK_eq, appC_eq, grd_t, srun_cons, stepK_call, stepK_grd, sk_mv, sk_take, sk_pick, sk_bin, sk_lenL, get_mk, raw_slot, raw_lit, put_some, wb_nil, ev_mv, ev_take, ev_pick, ev_lenN, bin_eql, ro_bool, got_nilS, got_ptr, pubs, pubsFrom, List.map_cons, List.map_nil, List.getD_cons_zero, List.getD_cons_succ, List.set_cons_zero, List.set_cons_succ, Bool.false_eq_true, ↓reduceIte, beq_self_eq_true]
           refine callK_intro (v32 (id := 0) (v := v) (p := 0) (e := ex) rfl) ?_
           simp (maxSteps := 2000000) (disch := first | omega | (simp only [List.length_append, List.length_cons, List.length_nil, List.length_map] <;> omega)) only [grd_t, ev_pick, flg_bool, swp_ret, seqK_n, seqK_r, evK_some, appK_eq, appC_eq, grd_t, srun_nil, srun_cons, stepK_grd, fin_ret, sk_give, sk_pick, sk_bin, get_mk, raw_slot, raw_lit, put_some, wb_nil, ev_give, ev_pick, bin_eql, ro_bool, List.map_cons, List.map_nil, List.getD_cons_zero, List.getD_cons_succ, List.set_cons_zero, List.set_cons_succ, List.length_nil, and_true, Bool.false_eq_true, ↓reduceIte, beq_self_eq_true, Int.cast_ofNat_Int]
           exact ⟨[], .inr ⟨by simp, by simp, rfl, rfl⟩⟩)
end Go.Sh.F
