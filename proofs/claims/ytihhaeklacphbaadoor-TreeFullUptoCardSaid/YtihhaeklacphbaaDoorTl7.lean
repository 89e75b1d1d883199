/-
  Trees: the law TreeFull, walked.
-/
import Derived.Test.YtihhaeklacphbaaDoorTl6
set_option linter.unusedSimpArgs false
set_option linter.unusedVariables false
namespace Go.Sh.F
open Go.PathLaw Go.TreeLaw Go.Proofs
def zer (n : Nat) : List UInt8 := List.replicate n 0
theorem zer_len (n : Nat) : (zer n).length = n := by simp [zer]
theorem rep_zer (n : Nat) : rep n [.int .u8 0] = bsv (zer n) := by
  unfold rep
  induction n with
  | zero => rfl
  | succ n ih => rw [List.replicate_succ, List.flatten_cons, ih]; rfl
theorem ev_mkz {st : List Ob} {n : Nat} (h : n ≤ 1073741824) : ev st (.mkS 1 1 [.int .u8 0]) [.int .i64 (n : Int), .int .i64 (n : Int)] = some (.sl (bsv (zer n)) n (.excl 1), [], st) := by
  show (if 0 ≤ (n : Int) ∧ (n : Int) = (n : Int) ∧ (n : Int) * ((1 : Nat) : Int) ≤ 140737488355328 ∧ (n : Int) ≤ 1073741824 then some (SV.sl (rep (n : Int).toNat [.int .u8 0]) (n : Int).toNat (.excl 1), [], st) else none) = _
  rw [if_pos ⟨by omega, rfl, by omega, by omega⟩, Int.toNat_natCast, rep_zer]
theorem byte_of {x : Nat} (h : x < 256) : ((UInt8.ofNat x).toNat : Int) = (x : Int) := by
  rw [UInt8.toNat_ofNat']; omega
set_option maxHeartbeats 100000000 in
set_option maxRecDepth 100000 in
theorem l8 (k z : Int) (st : List Ob) (ho : okSt st) : swpF O330 sf8 [.int .i64 k, .int .i64 z] st (fun r _ => r = .bool true) := by
  have z0 : ((0 : Int) == 0) = true := rfl
  have z2 : ((2 : Int) == 0) = false := rfl
  have z3 : ((2 : Int) == 2) = true := rfl
  simp (maxSteps := 2000000) (disch := first | omega | (simp only [List.length_append, List.length_cons, List.length_nil, List.length_map] <;> omega)) only [sf8, List.set_cons_zero, List.set_cons_succ, flg_bool, swp_seq, swp_reg, seqK_n, evK_some, appK_eq, srun_nil, srun_cons, stepK_call, swpF_eq, sk_give, raw_lit, put_some, wb_nil, ev_give, ro_bool, pubs, pubsFrom, List.map_cons, List.map_nil, List.set_cons_zero, List.set_cons_succ, List.length_cons, List.length_nil, List.replicate_succ, List.replicate_zero, List.cons_append, List.nil_append, Nat.reduceAdd, Nat.reduceSub, Bool.false_eq_true, ↓reduceIte, Nat.zero_add]
  refine callK_intro (nS ho) ?_
  rcases bf (decide (k < (0 : Int))) with h1 | h1
  rotate_left
  · simp (maxSteps := 2000000) (disch := first | omega | (simp only [List.length_append, List.length_cons, List.length_nil, List.length_map] <;> omega)) only [h1, List.set_cons_zero, List.set_cons_succ, flg_bool, swp_seq, swp_reg, swp_ret, swp_cond, seqK_n, seqK_r, condK_t, evK_some, appK_eq, appC_eq, grd_t, srun_nil, srun_cons, stepK_grd, fin_ret, sk_mv, sk_give, sk_pick, sk_bin, get_mk, raw_slot, raw_lit, put_some, wb_nil, ev_mv, ev_give, ev_pick, bin_lss, ro_int, ro_bool, List.map_cons, List.map_nil, List.getD_cons_zero, List.getD_cons_succ, List.set_cons_zero, List.set_cons_succ, and_true, Bool.false_eq_true, ↓reduceIte, reduceCtorEq]
    first | exact ⟨_, .same, rfl⟩ | exact ⟨_, .same⟩
  rcases bf (decide ((40 : Int) < k)) with h2 | h2
  rotate_left
  · simp (maxSteps := 2000000) (disch := first | omega | (simp only [List.length_append, List.length_cons, List.length_nil, List.length_map] <;> omega)) only [h1, h2, List.set_cons_zero, List.set_cons_succ, flg_bool, exc_int, swp_seq, swp_reg, swp_ret, swp_cond, seqK_n, seqK_r, condK_t, evK_some, appK_eq, appC_eq, grd_t, srun_nil, srun_cons, stepK_grd, fin_ret, sk_mv, sk_take, sk_give, sk_pick, sk_bin, get_mk, raw_slot, raw_lit, put_some, wb_nil, ev_mv, ev_take, ev_give, ev_pick, bin_lss, bin_gtr, ro_int, ro_bool, got_int, List.map_cons, List.map_nil, List.getD_cons_zero, List.getD_cons_succ, List.set_cons_zero, List.set_cons_succ, and_true, Bool.false_eq_true, ↓reduceIte, reduceCtorEq, gt_iff_lt]
    first | exact ⟨_, .same, rfl⟩ | exact ⟨_, .same⟩
  rcases bf (decide (z < (0 : Int))) with h3 | h3
  rotate_left
  · simp (maxSteps := 2000000) (disch := first | omega | (simp only [List.length_append, List.length_cons, List.length_nil, List.length_map] <;> omega)) only [h1, h2, h3, List.set_cons_zero, List.set_cons_succ, flg_bool, exc_int, swp_seq, swp_reg, swp_ret, swp_cond, seqK_n, seqK_r, condK_t, evK_some, appK_eq, appC_eq, grd_t, srun_nil, srun_cons, stepK_grd, fin_ret, sk_mv, sk_take, sk_give, sk_pick, sk_bin, get_mk, raw_slot, raw_lit, put_some, wb_nil, ev_mv, ev_take, ev_give, ev_pick, bin_lss, bin_gtr, ro_int, ro_bool, got_int, List.map_cons, List.map_nil, List.getD_cons_zero, List.getD_cons_succ, List.set_cons_zero, List.set_cons_succ, and_true, Bool.false_eq_true, ↓reduceIte, reduceCtorEq, gt_iff_lt]
    first | exact ⟨_, .same, rfl⟩ | exact ⟨_, .same⟩
  rcases bf (decide ((700 : Int) < z)) with h4 | h4
  rotate_left
  · simp (maxSteps := 2000000) (disch := first | omega | (simp only [List.length_append, List.length_cons, List.length_nil, List.length_map] <;> omega)) only [h1, h2, h3, h4, List.set_cons_zero, List.set_cons_succ, flg_bool, exc_int, swp_seq, swp_reg, swp_ret, swp_cond, seqK_n, seqK_r, condK_t, evK_some, appK_eq, appC_eq, grd_t, srun_nil, srun_cons, stepK_grd, fin_ret, sk_mv, sk_take, sk_give, sk_pick, sk_bin, get_mk, raw_slot, raw_lit, put_some, wb_nil, ev_mv, ev_take, ev_give, ev_pick, bin_lss, bin_gtr, ro_int, ro_bool, got_int, List.map_cons, List.map_nil, List.getD_cons_zero, List.getD_cons_succ, List.set_cons_zero, List.set_cons_succ, and_true, Bool.false_eq_true, ↓reduceIte, gt_iff_lt]
    first | exact ⟨_, .same, rfl⟩ | exact ⟨_, .same⟩
  obtain ⟨N, rfl⟩ : ∃ N : Nat, k = (N : Int) := ⟨k.toNat, by have := of_decide_eq_false h1; omega⟩
  obtain ⟨Z, rfl⟩ : ∃ Z : Nat, z = (Z : Int) := ⟨z.toNat, by have := of_decide_eq_false h3; omega⟩
  have hN : N ≤ 40 := by have := of_decide_eq_false h2; omega
  have hZ : Z ≤ 700 := by have := of_decide_eq_false h4; omega
  obtain ⟨d, hdd⟩ : ∃ d, d = zer Z := ⟨_, rfl⟩
  have hdl : d.length = Z := by rw [hdd, zer_len]
  have hds : sm d := by unfold sm; omega
  have hmk : ev st (.mkS 1 1 [.int .u8 0]) [.int .i64 (Z : Int), .int .i64 (Z : Int)] = some (.sl (bsv d) Z (.excl 1), [], st) := by rw [hdd]; exact ev_mkz (by omega)
  have hb2 : ∀ f, ev st .b2s [.sl (bsv d) Z f] = some (.str d, [], st) := fun f => by rw [b2s_bsv, if_pos hdl.symm]
  simp (maxSteps := 2000000) (disch := first | omega | (simp only [List.length_append, List.length_cons, List.length_nil, List.length_map] <;> omega)) only [h1, h2, h3, h4, hmk, hb2, List.set_cons_zero, List.set_cons_succ, flg_bool, flg_str, exc_int, exc_nilS, swp_seq, swp_reg, swp_skip, swp_block, swp_cond, seqK_n, condK_f, evK_some, appK_eq, appC_eq, grd_t, srun_nil, srun_cons, stepK_grd, sk_mv, sk_take, sk_give, sk_pick, sk_bin, sk_b2s, sk_mkS, get_mk, raw_slot, raw_lit, put_some, wb_nil, ev_mv, ev_take, ev_give, ev_pick, bin_lss, bin_gtr, ro_int, ro_bool, ro_str, got_int, got_nilS, List.map_cons, List.map_nil, List.getD_cons_zero, List.getD_cons_succ, List.set_cons_zero, List.set_cons_succ, Bool.false_eq_true, ↓reduceIte, gt_iff_lt]
  refine swp_lp (fun S => ∃ (i : Nat) (w : SV), i ≤ N ∧ RowF st w (tS d i) ∧ S = ⟨[.int .i64 N, .int .i64 Z, .undef, .undef, .bool false, .bool true, w, .str d, .int .i64 i] ++ List.replicate 94 .undef, st⟩)
    (fun S => match S.get 8 with | .int _ k => ((N : Int) - k).toNat | _ => 0)
    ⟨[.int .i64 N, .int .i64 Z, .undef, .undef, .bool false, .bool true, .nilS, .str d, .int .i64 0] ++ List.replicate 94 .undef, st⟩ ?_ ⟨0, .nilS, Nat.zero_le _, by
      have : tS d 0 = [] := by unfold tS; split <;> rfl
      rw [this]; exact nilF st, rfl⟩ ?_
  · refine Forget.of ?_
    repeat first | exact fg_e | refine fg_d ?_ | refine fg_k rfl ?_
  rintro S ⟨i, w, hi, hw, rfl⟩
  obtain ⟨w1, w2, w3, w4, w6, w7⟩ := RowAt.facts hw
  have w5 := RowAt.lenL hw
  have hsu := smT_tS hds i
  by_cases him : i = N
  · subst him
    have hd : decide ((i : Int) < (i : Int)) = false := by rw [decide_eq_false_iff_not]; omega
    rcases bf (decide ((600 : Int) < (Z : Int))) with g1 | g1
    rotate_left
    · have g1' : 600 < Z := by have := of_decide_eq_true g1; omega
      have hu0 : tS d i = [] := by unfold tS; rw [if_neg (by omega)]
      have hz : ((((tS d i).length : Nat) : Int) == 0) = true := by rw [hu0]; rfl
      simp (maxSteps := 2000000) (disch := first | omega | (simp only [List.length_append, List.length_cons, List.length_nil, List.length_map] <;> omega)) only [hd, g1, hz, w2, w3, w5, List.set_cons_zero, List.set_cons_succ, lpK_e, flg_bool, swp_seq, swp_reg, swp_ret, swp_exit, swp_cond, seqK_n, seqK_e, seqK_r, blkK_e, condK_t, condK_f, evK_some, appK_eq, grd_t, srun_nil, srun_cons, stepK_grd, fin_ret, sk_mv, sk_take, sk_give, sk_pick, sk_bin, sk_lenL, get_mk, raw_slot, raw_lit, put_some, wb_nil, ev_mv, ev_take, ev_give, ev_pick, bin_eql, bin_lss, bin_gtr, ro_int, ro_bool, List.map_cons, List.map_nil, List.getD_cons_zero, List.getD_cons_succ, List.set_cons_zero, List.set_cons_succ, List.replicate_succ, List.replicate_zero, List.cons_append, List.nil_append, and_true, Bool.false_eq_true, ↓reduceIte, gt_iff_lt]
      first | exact ⟨_, .same, rfl⟩ | exact ⟨_, .same⟩
    · have g1' : Z ≤ 600 := by have := of_decide_eq_false g1; omega
      have hu0 : tS d i = tF d (min i 16) := by unfold tS; rw [if_pos (by omega)]
      have hl : (tS d i).length = min i 16 := by rw [hu0, tF_len]
      have hz : ((((tS d i).length : Nat) : Int) == (if (16 : Int) < (i : Int) then 16 else (i : Int))) = true := by
        rw [beq_iff_eq, hl]; split <;> omega
      have hsz : szT (tS d i) = (tS d i).length * Z := by rw [hu0, szT_tF, tF_len, hdl]
      have hmul : (tS d i).length * Z ≤ 16 * 700 := Nat.mul_le_mul (by omega) hZ
      have hw9 : IntKind.i64.wrap (((tS d i).length : Int) * (Z : Int)) = ((szT (tS d i) : Nat) : Int) := by
        rw [hsz, ← Int.natCast_mul, wrap_i64 (by omega) (by omega)]
      have hz2 : (((szT (tS d i) : Nat) : Int) == ((szT (tS d i) : Nat) : Int)) = true := beq_self_eq_true _
      simp (maxSteps := 2000000) (disch := first | omega | (simp only [List.length_append, List.length_cons, List.length_nil, List.length_map] <;> omega)) only [hd, g1, hz, w2, w3, w5, List.set_cons_zero, List.set_cons_succ, lpK_e, exc_int, swp_seq, swp_reg, swp_skip, swp_exit, swp_cond, seqK_n, seqK_e, blkK_e, condK_f, evK_some, appK_eq, grd_t, srun_nil, srun_cons, stepK_call, stepK_grd, sk_mv, sk_take, sk_pick, sk_bin, sk_lenL, sk_min, get_mk, raw_slot, raw_lit, put_some, wb_nil, ev_mv, ev_take, ev_pick, ev_min, bin_eql, bin_lss, bin_gtr, ro_int, ro_bool, got_int, pubs, pubsFrom, List.map_cons, List.map_nil, List.getD_cons_zero, List.getD_cons_succ, List.set_cons_zero, List.set_cons_succ, List.replicate_succ, List.replicate_zero, List.cons_append, List.nil_append, Bool.false_eq_true, ↓reduceIte, gt_iff_lt]
      refine callK_intro (up (n24 hw hsu.1 (fun f hf => (hsu.2 f hf).2) ho)) ?_
      simp (maxSteps := 2000000) (disch := first | omega | (simp only [List.length_append, List.length_cons, List.length_nil, List.length_map] <;> omega)) only [hw9, hz2, w2, w3, w5, List.set_cons_zero, List.set_cons_succ, flg_bool, exc_int, swp_ret, seqK_n, evK_some, appK_eq, appC_eq, grd_t, srun_nil, srun_cons, stepK_grd, fin_ret, sk_take, sk_give, sk_pick, sk_bin, sk_lenL, get_mk, raw_slot, raw_lit, put_some, wb_nil, ev_take, ev_give, ev_pick, bin_mul, bin_eql, ro_bool, got_int, List.map_cons, List.map_nil, List.getD_cons_zero, List.getD_cons_succ, List.set_cons_zero, List.set_cons_succ, and_true, Bool.false_eq_true, ↓reduceIte]
      first | exact ⟨_, .same, rfl⟩ | exact ⟨_, .same⟩
  have hd : decide ((i : Int) < (N : Int)) = true := by rw [decide_eq_true_eq]; omega
  have fin := fin_ltT (show i < N by omega)
  have hi40 : i < 40 := by omega
  have n1 : IntKind.u8.wrap ((i : Nat) : Int) = (i : Int) := by rw [wrap_u8]; omega
  have n2 : ∀ s, ev s (.bin .rem) [.int .u8 (i : Int), .int .u8 26] = some (.int .u8 ((i % 26 : Nat) : Int), [], s) := fun s => by
    rw [bin_rem (by decide), Int.tmod_eq_emod_of_nonneg (by omega)]; rfl
  have n3 : IntKind.u8.wrap (97 + ((i % 26 : Nat) : Int)) = ((UInt8.ofNat (97 + i % 26)).toNat : Int) := by rw [wrap_u8, byte_of (by omega)]; omega
  have n4 : ∀ x s, ev s (.bsl 1 1 [.int .u8 0] [0]) [.int .u8 x] = some (.sl [.int .u8 x] 1 (.excl 1), [], s) := fun x s => rfl
  have n5 : ∀ (c : UInt8) f s, ev s .b2s [.sl [.int .u8 ((c.toNat : Nat) : Int)] 1 f] = some (.str [c], [], s) := fun c f s => by
    have := b2s_bytes (st := s) (l := [c]) (n := 1) (f := f)
    rw [if_pos (show 1 = [c].length from rfl)] at this
    exact this
  have n6 : ∀ (c : UInt8) s, ev s (.bin .add) [.str [102], .str [c]] = some (.str [102, c], [], s) := fun c s => bin_addS (by simp)
  have n6b : ∀ (b c : UInt8) s, ev s (.bin .add) [.str [102, b], .str [c]] = some (.str [102, b, c], [], s) := fun b c s => bin_addS (by simp)
  have n7 : ∀ s, ev s (.bin .quo) [.int .i64 (i : Int), .int .i64 26] = some (.int .i64 ((i / 26 : Nat) : Int), [], s) := fun s => by
    have e : (i : Int).tdiv 26 = ((i / 26 : Nat) : Int) := by rw [Int.tdiv_eq_ediv_of_nonneg (by omega)]; rfl
    have e2 : IntKind.i64.wrap ((i / 26 : Nat) : Int) = ((i / 26 : Nat) : Int) := by rw [wrap_i64 (by omega) (by omega)]
    rw [bin_quo (by decide), e, e2]
  have n8 : IntKind.u8.wrap (((i / 26 : Nat)) : Int) = ((i / 26 : Nat) : Int) := by rw [wrap_u8]; omega
  have n9 : IntKind.u8.wrap (97 + ((i / 26 : Nat) : Int)) = ((UInt8.ofNat (97 + i / 26)).toNat : Int) := by rw [wrap_u8, byte_of (by omega)]; omega
  have hnm : [102] ++ [UInt8.ofNat (97 + i % 26)] ++ [UInt8.ofNat (97 + i / 26)] = nm i := rfl
  have hnm2 : [102, UInt8.ofNat (97 + i % 26), UInt8.ofNat (97 + i / 26)] = nm i := rfl
  have hsn : sm (nm i) := by show (3 : Nat) ≤ _; decide
  simp (maxSteps := 2000000) (disch := first | omega | (simp only [List.length_append, List.length_cons, List.length_nil, List.length_map] <;> omega)) only [hd, n1, n2, n3, n4, n5, n6, n6b, n7, n8, n9, hnm2, w1, w2, w3, List.set_cons_zero, List.set_cons_succ, flg_str, exc_str, swp_seq, swp_reg, swp_skip, swp_block, swp_cond, seqK_n, condK_t, evK_some, appK_eq, srun_nil, srun_cons, stepK_call, sk_mv, sk_give, sk_bin, sk_cvI, sk_b2s, sk_bsl, get_mk, raw_slot, raw_lit, put_some, wb_nil, ev_mv, ev_give, ev_cvI, bin_add, bin_lss, ro_int, ro_str, got_str, pubs, pubsFrom, List.map_cons, List.map_nil, List.getD_cons_zero, List.getD_cons_succ, List.set_cons_zero, List.set_cons_succ, List.replicate_succ, List.replicate_zero, List.cons_append, List.nil_append, Bool.false_eq_true, ↓reduceIte, ev_cvI]
  refine callK_intro (up (n12 hw hsu hsn hds ho)) ?_
  rcases tS_step d hi40 with ⟨a1, a2, a3, a4, a5, a6⟩ | ⟨a1, a2, a4, a5, a6⟩
  · have a7 := a6 (st.length + 2) [.cells [.str (nm i)], .cells [.str (nm i), .str d], .cells ((insP (nm i) d (tS d i)).flatMap fC)]
    rw [a4, a7.1, a7.2]
    have g1 : decide ((Z : Int) ≤ 600) = true := by rw [decide_eq_true_eq]; omega
    have g2 : decide (((tS d i).length : Int) < 16) = true := by rw [decide_eq_true_eq]; omega
    have zz : (true != true) = false := rfl
    have hw2 := ro_row (st := st) a5
    simp (maxSteps := 2000000) (disch := first | omega | (simp only [List.length_append, List.length_cons, List.length_nil, List.length_map] <;> omega)) only [g1, g2, z0, Bool.not_true, List.append_nil, w2, w3, w5, List.set_cons_zero, List.set_cons_succ, lpK_n, pub_excl2, flg_int, flg_excl, exc_bool, exc_int, exc_excl, swp_seq, swp_reg, swp_skip, swp_cond, seqK_n, blkK_n, condK_t, condK_f, evK_some, appK_eq, appC_eq, grd_t, srun_nil, srun_cons, stepK_grd, sk_mv, sk_take, sk_give, sk_pick, sk_bin, sk_eqB, sk_lenL, sk_ext, get_mk, raw_slot, raw_lit, put_some, wb_nil, wb_cons, ev_mv, ev_take, ev_give, ev_pick, ev_eqB, ev_ext, bin_add, bin_eql, bin_neq, bin_lss, bin_leq, ro_int, ro_bool, ro_excl, ro_tup, ro2_int, got_excl, got_int, got_bool, List.map_cons, List.map_nil, List.getD_cons_zero, List.getD_cons_succ, List.set_cons_zero, List.set_cons_succ, List.getElem?_cons_zero, List.getElem?_cons_succ, Bool.false_eq_true, Option.map_some, ↓reduceIte, List.append_nil, Bool.not_true, beq_self_eq_true, bne_self_eq_false, wrap_i64]
    refine ⟨_, ?_, ⟨i + 1, _, by omega, hw2, rfl⟩, by exact fin⟩
    refine Forget.of ?_
    repeat first | exact fg_e | refine fg_d ?_ | refine fg_k rfl ?_
  · have a7 := a6 (st.length + 2) [.cells [.str (nm i)], .cells [.str (nm i), .str d], .cells ((insP (nm i) d (tS d i)).flatMap fC)]
    rw [a4, a7.1, a7.2]
    have zz : (false != false) = false := rfl
    have hw2 : RowF st w (tS d (i + 1)) := by rw [a5]; exact hw
    rcases bf (decide ((Z : Int) ≤ 600)) with g1 | g1
    · simp (maxSteps := 2000000) (disch := first | omega | (simp only [List.length_append, List.length_cons, List.length_nil, List.length_map] <;> omega)) only [g1, z2, Bool.not_true, Bool.not_false, List.append_nil, nbI, List.set_cons_zero, List.set_cons_succ, lpK_n, flg_int, flg_nilS, exc_bool, exc_int, swp_seq, swp_reg, swp_skip, swp_cond, seqK_n, blkK_n, condK_f, evK_some, appK_eq, appC_eq, grd_t, srun_nil, srun_cons, stepK_grd, sk_mv, sk_take, sk_give, sk_pick, sk_bin, sk_eqB, sk_ext, get_mk, raw_slot, raw_lit, put_some, wb_nil, ev_mv, ev_take, ev_give, ev_pick, ev_eqB, ev_ext, bin_add, bin_eql, bin_neq, bin_leq, ro_int, ro_bool, ro_nilS, ro_tup, ro2_nilS, ro2_int, got_int, got_bool, List.map_cons, List.map_nil, List.getD_cons_zero, List.getD_cons_succ, List.set_cons_zero, List.set_cons_succ, List.getElem?_cons_zero, List.getElem?_cons_succ, Bool.false_eq_true, Option.map_some, ↓reduceIte, List.append_nil, Bool.not_true, Bool.not_false, beq_self_eq_true, bne_self_eq_false, wrap_i64]
      refine ⟨_, ?_, ⟨i + 1, _, by omega, hw2, rfl⟩, by exact fin⟩
      refine Forget.of ?_
      repeat first | exact fg_e | refine fg_d ?_ | refine fg_k rfl ?_
    · have g1' := of_decide_eq_true g1
      have g2 : decide (((tS d i).length : Int) < 16) = false := by rw [decide_eq_false_iff_not]; omega
      simp (maxSteps := 2000000) (disch := first | omega | (simp only [List.length_append, List.length_cons, List.length_nil, List.length_map] <;> omega)) only [g1, g2, z2, Bool.not_true, Bool.not_false, List.append_nil, w2, w3, w5, nbI, List.set_cons_zero, List.set_cons_succ, lpK_n, flg_int, flg_nilS, exc_bool, exc_int, swp_seq, swp_reg, swp_skip, swp_cond, seqK_n, blkK_n, condK_f, evK_some, appK_eq, appC_eq, grd_t, srun_nil, srun_cons, stepK_grd, sk_mv, sk_take, sk_give, sk_pick, sk_bin, sk_eqB, sk_lenL, sk_ext, get_mk, raw_slot, raw_lit, put_some, wb_nil, ev_mv, ev_take, ev_give, ev_pick, ev_eqB, ev_ext, bin_add, bin_eql, bin_neq, bin_lss, bin_leq, ro_int, ro_bool, ro_nilS, ro_tup, ro2_nilS, ro2_int, got_int, got_bool, List.map_cons, List.map_nil, List.getD_cons_zero, List.getD_cons_succ, List.set_cons_zero, List.set_cons_succ, List.getElem?_cons_zero, List.getElem?_cons_succ, Bool.false_eq_true, Option.map_some, ↓reduceIte, List.append_nil, Bool.not_true, Bool.not_false, beq_self_eq_true, bne_self_eq_false, wrap_i64]
      refine ⟨_, ?_, ⟨i + 1, _, by omega, hw2, rfl⟩, by exact fin⟩
      refine Forget.of ?_
      repeat first | exact fg_e | refine fg_d ?_ | refine fg_k rfl ?_
end Go.Sh.F
