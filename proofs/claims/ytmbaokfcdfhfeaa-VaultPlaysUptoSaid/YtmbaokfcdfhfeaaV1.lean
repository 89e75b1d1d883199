/-
  Sizes and buckets, in the shadow machine.
-/
import Derived.Test.YtmbaokfcdfhfeaaT1
import Derived.Test.YtmbaokfcdfhfeaaShTl
set_option linter.unusedSimpArgs false
set_option linter.unusedVariables false
namespace Go.Sh.F
def L4 : List SV := [.int .i64 80, .int .i64 320, .int .i64 1280, .int .i64 5120]
theorem st4 {st : List Ob} {i : Nat} {a b c d : SV} (h : st[i]? = some (.cells [a, b, c, d])) : ev st (.store 4 true) [.ptr i 0, .agg [.int .i64 80, .int .i64 320, .int .i64 1280, .int .i64 5120]] = some (.undef, [], st.set i (.cells L4)) := by
  show (match st[i]? with | some (.cells l) => _ | _ => none) = _
  rw [h]; rfl
theorem k50 (O : Orc) (st : List Ob) (h : okSt st) : swpF O sf35 [] st (fun r st' => r = .agg L4 ∧ st' = st) := by
  have hs := st4 (st := st ++ [.cells [.int .i64 0, .int .i64 0, .int .i64 0, .int .i64 0]]) get_end
  rw [set_end] at hs
  simp (maxSteps := 2000000) (disch := first | omega | (simp only [List.length_append, List.length_cons, List.length_nil, List.length_map] <;> omega)) only [sf35, hs, exc_int, swp_seq, swp_reg, swp_ret, seqK_n, evK_some, appK_eq, srun_nil, srun_cons, swpF_eq, sk_store, sk_bld, sk_alloc, get_mk, raw_slot, raw_lit, put_some, put_none, wb_nil, ev_bld, ev_alloc, got_int, pubs, pubsFrom, List.map_cons, List.map_nil, List.getD_cons_zero, List.getD_cons_succ, List.set_cons_zero, List.set_cons_succ, List.length_cons, List.length_nil, List.replicate_succ, List.replicate_zero, List.nil_append, Nat.reduceAdd, Nat.reduceSub, Nat.reduceLeDiff, and_true, Bool.false_eq_true, Option.map_some, ↓reduceIte, List.all_cons, List.all_nil, Bool.and_self, List.zip_cons_cons, List.zip_nil_right, fillV, wrCells, cellsV, isCell, Nat.zero_add, Nat.le_refl]
  refine ⟨.agg L4, st, ?_, trim1 h rfl, rfl, rfl⟩
  exact retOf_cell (id := st.length) (l := L4) rfl get_end rfl rfl
def K50 : List SV → List Ob → SV → List Ob → Prop := fun args st r st' => okSt st ∧ args = [] ∧ r = .agg L4 ∧ st' = st
def O29 : Orc := Orc.none.add 35 K50
theorem s29 : Sound Proofs.Try.prog O29 := (Sound.none (P := Proofs.Try.prog)).add c35 (by kernel_rfl) (by
  rintro args st r st' ⟨h, rfl, rfl, rfl⟩
  exact ⟨by simp [sf35], k50 _ _ h⟩)
theorem app_slo4 {st : List Ob} {z : List SV} {id : Nat} (h : st[id]? = some (.cells L4)) :
    ev st (.app 1 8 z) [.sl [] 0 (.excl 1), .slo id 0 4] = some (.sl L4 4 (.excl 1), [(0, .undef)], st) := by
  rw [ev_appO, h, apO_some]
  rfl
theorem k51 (O : Orc) (id : Nat) (st : List Ob) (h : st[id]? = some (.cells L4)) : swpF O sf36 [.slo id 0 4] st (fun r st' => r = .sl L4 4 (.excl 1) ∧ st' = st) := by
  have happ := app_slo4 (z := [.int .i64 0]) h
  simp (maxSteps := 2000000) (disch := first | omega | (simp only [List.length_append, List.length_cons, List.length_nil, List.length_map] <;> omega)) only [sf36, happ, ro_slo, ev_eqNs3, flg_nilS, flg_excl, swp_seq, swp_reg, swp_skip, swp_ret, swp_cond, seqK_n, condK_f, evK_some, appK_eq, srun_nil, srun_cons, fin_ret, swpF_eq, sk_mv, sk_give, sk_eqN, sk_bsl, sk_app, get_mk, raw_slot, raw_lit, put_some, wb_nil, wb_cons, ev_mv, ev_give, ev_bsl, ro_nilS, ro_excl, pubs, pubsFrom, List.map_cons, List.map_nil, List.getD_cons_zero, List.getD_cons_succ, List.set_cons_zero, List.set_cons_succ, List.getElem?_cons_zero, List.length_cons, List.length_nil, List.replicate_succ, List.replicate_zero, List.cons_append, List.nil_append, Nat.reduceSub, true_and, and_true, Bool.false_eq_true, Option.map_some, ↓reduceIte, List.all_nil, List.zip_nil_right, rep, fillV, List.flatten_nil, Nat.mul_one, Nat.zero_add]
  exact ⟨_, .same, rfl⟩
def K51 : List SV → List Ob → SV → List Ob → Prop := fun args st r st' => st' = st ∧ ∃ id, st[id]? = some (.cells L4) ∧ args = [.slo id 0 4] ∧ r = .sl L4 4 (.excl 1)
def O30 : Orc := O29.add 36 K51
theorem s30 : Sound Proofs.Try.prog O30 := s29.add c36 (by kernel_rfl) (by
  rintro args st r st' ⟨rfl, id, h, rfl, rfl⟩
  exact ⟨by simp [sf36], k51 _ id _ h⟩)
theorem k43 (st : List Ob) (h : okSt st) : swpF O30 sf33 [] st (fun r st' => r = .sl L4 4 (.excl 1) ∧ st' = st) := by
  have hs := st4 (st := st ++ [.cells [.int .i64 0, .int .i64 0, .int .i64 0, .int .i64 0]]) get_end
  rw [set_end] at hs
  have c50 : O30 35 [] st (.agg L4) st := .inl (.inr ⟨rfl, h, rfl, rfl, rfl⟩)
  have c51 : O30 36 [.slo st.length 0 4] (st ++ [.cells L4]) (.sl L4 4 (.excl 1)) (st ++ [.cells L4]) := .inr ⟨rfl, rfl, st.length, get_end, rfl, rfl⟩
  simp (maxSteps := 2000000) (disch := first | omega | (simp only [List.length_append, List.length_cons, List.length_nil, List.length_map] <;> omega)) only [sf33, flg_nilS, swp_seq, swp_reg, seqK_n, evK_some, appK_eq, srun_nil, srun_cons, stepK_call, swpF_eq, sk_give, raw_lit, put_some, wb_nil, ev_give, ro_nilS, pubs, pubsFrom, List.map_cons, List.map_nil, List.set_cons_zero, List.length_nil, List.replicate_succ, List.replicate_zero, List.nil_append, Nat.reduceSub, Bool.false_eq_true, ↓reduceIte]
  refine callK_intro c50 ?_
  simp (maxSteps := 2000000) (disch := first | omega | (simp only [List.length_append, List.length_cons, List.length_nil, List.length_map] <;> omega)) only [hs, L4, slcP_all, sk_slcP, got_slo, exc_slo, slcP_all, swp_seq, swp_reg, seqK_n, evK_some, appK_eq, appC_eq, srun_nil, srun_cons, stepK_call, sk_store, sk_alloc, get_mk, raw_slot, put_some, put_none, wb_nil, ev_alloc, pubs, pubsFrom, List.map_cons, List.map_nil, List.getD_cons_zero, List.getD_cons_succ, List.set_cons_zero, List.set_cons_succ, Bool.false_eq_true, ↓reduceIte]
  refine callK_intro c51 ?_
  simp (maxSteps := 2000000) (disch := first | omega | (simp only [List.length_append, List.length_cons, List.length_nil, List.length_map] <;> omega)) only [flg_excl, swp_ret, seqK_n, evK_some, appK_eq, appC_eq, srun_nil, srun_cons, fin_ret, sk_give, get_mk, raw_slot, put_some, wb_nil, wb_cons, ev_give, ro_excl, List.map_cons, List.map_nil, List.getD_cons_zero, List.getD_cons_succ, List.set_cons_zero, List.set_cons_succ, List.getElem?_cons_zero, ↓reduceIte]
  exact ⟨st, trim1 h rfl, rfl, rfl⟩
def K43 : List SV → List Ob → SV → List Ob → Prop := fun args st r st' => okSt st ∧ args = [] ∧ r = .sl L4 4 (.excl 1) ∧ st' = st
def O31 : Orc := O30.add 33 K43
theorem s31 : Sound Proofs.Try.prog O31 := s30.add c33 (by kernel_rfl) (by
  rintro args st r st' ⟨h, rfl, rfl, rfl⟩
  exact ⟨by simp [sf33], k43 _ h⟩)
def sizeF (k : Int) : Int := if k = 0 then 80 else if k = 1 then 320 else if k = 2 then 1280 else if k = 3 then 5120 else 0
def bucketF (n : Int) : Int := if n < 0 then -1 else if n ≤ 76 then 0 else if n ≤ 316 then 1 else if n ≤ 1276 then 2 else if n ≤ 5116 then 3 else -1
theorem k49 (O : Orc) (x n : Int) (id : Nat) (st : List Ob) (h : st[id]? = some (.cells [.int .i64 n])) (h0 : 0 ≤ n) (h1 : n ≤ 16384) : swpF O sf34 [.int .i64 x, .ptr id 0] st (fun r st' => r = .bool (decide (n + 4 ≤ x)) ∧ st' = st) := by
  simp (maxSteps := 2000000) (disch := first | omega | (simp only [List.length_append, List.length_cons, List.length_nil, List.length_map] <;> omega)) only [sf34, h, flg_bool, swp_seq, swp_reg, swp_ret, seqK_n, evK_some, appK_eq, srun_nil, srun_cons, fin_ret, swpF_eq, sk_mv, sk_give, sk_bin, sk_load, get_mk, raw_slot, raw_lit, put_some, wb_nil, ev_mv, ev_give, bin_add, bin_geq, ev_ldP, ldP_some, ro_int, ro_bool, List.map_cons, List.map_nil, List.getD_cons_zero, List.getD_cons_succ, List.set_cons_zero, List.set_cons_succ, List.getElem?_cons_zero, List.length_cons, List.length_nil, List.replicate_succ, List.replicate_zero, List.cons_append, List.nil_append, Nat.reduceAdd, Nat.reduceSub, true_and, Bool.false_eq_true, Option.map_some, ↓reduceIte, Nat.zero_add, ge_iff_le, wrap_i64]
  exact ⟨_, .same, rfl⟩
def K49 : List SV → List Ob → SV → List Ob → Prop := fun args st r st' => ∃ x n id, st[id]? = some (.cells [.int .i64 n]) ∧ 0 ≤ n ∧ n ≤ 16384 ∧ args = [.int .i64 x, .ptr id 0] ∧ r = .bool (decide (n + 4 ≤ x)) ∧ st' = st
def O32 : Orc := O31.add 34 K49
theorem s32 : Sound Proofs.Try.prog O32 := s31.add c34 (by kernel_rfl) (by
  rintro args st r st' ⟨x, n, id, h, h0, h1, rfl, rfl, rfl⟩
  exact ⟨by simp [sf34], k49 _ x n id _ h h0 h1⟩)
theorem k48 (n : Int) (id : Nat) (st : List Ob) (h : st[id]? = some (.cells [.int .i64 n])) (h0 : 0 ≤ n) (h1 : n ≤ 16384) : swpF O32 sf32 [.sl L4 4 .ro, .fn 34 [] [.ptr id 0]] st (fun r st' => r = .int .i64 (bucketF n) ∧ st' = st) := by
  have c : ∀ x, O32 34 [.int .i64 x, .ptr id 0] st (.bool (decide (n + 4 ≤ x))) st := fun x => .inr ⟨rfl, x, n, id, h, h0, h1, rfl, rfl, rfl⟩
  simp (maxSteps := 2000000) (disch := first | omega | (simp only [List.length_append, List.length_cons, List.length_nil, List.length_map] <;> omega)) only [sf32, L4, flg_int, swp_seq, swp_reg, swp_block, seqK_n, evK_some, appK_eq, srun_nil, srun_cons, swpF_eq, sk_mv, sk_give, sk_lenL, get_mk, raw_slot, raw_lit, put_some, wb_nil, ev_mv, ev_give, ev_lenL, ro_int, ro_ro, List.map_cons, List.map_nil, List.getD_cons_zero, List.set_cons_zero, List.set_cons_succ, List.length_cons, List.length_nil, List.replicate_succ, List.replicate_zero, List.cons_append, List.nil_append, Nat.reduceAdd, Nat.reduceSub, Bool.false_eq_true, ↓reduceIte, Nat.zero_add, Int.cast_ofNat_Int, Int.reduceNeg]
  refine swp_unroll 5 ?_
  simp (maxSteps := 2000000) (disch := first | omega | (simp only [List.length_append, List.length_cons, List.length_nil, List.length_map] <;> omega)) only [stepK_callv, callvK_fn, exc_int, exc_fn, sk_idxB, idxB_ro, swp_seq, swp_reg, swp_skip, swp_block, swp_cond, seqK_n, condK_t, evK_some, appK_eq, srun_nil, srun_cons, sk_mv, sk_take, sk_bin, sk_load, get_mk, raw_slot, put_some, wb_nil, ev_mv, ev_take, bin_lss, unr_succ, ev_loadE, ro_int, ro_fn, ro_ro, got_int, pubs, pubsFrom, List.map_cons, List.map_nil, List.getD_cons_zero, List.getD_cons_succ, List.set_cons_zero, List.set_cons_succ, List.getElem?_cons_zero, List.cons_append, List.nil_append, Bool.false_eq_true, Option.map_some, ↓reduceIte, decide_true, Nat.mul_one, Int.reduceLT, Int.reduceToNat, Int.reduceNeg]
  by_cases c0 : n + 4 ≤ 80
  · have d0 : decide (n + 4 ≤ 80) = true := by simp; omega
    have hb : bucketF n = 0 := by unfold bucketF; rw [if_neg (by omega), if_pos (by omega)]
    refine callK_intro (c 80) ?_
    simp (maxSteps := 2000000) (disch := first | omega | (simp only [List.length_append, List.length_cons, List.length_nil, List.length_map] <;> omega)) only [d0, flg_int, swp_seq, swp_reg, swp_ret, swp_cond, seqK_n, seqK_r, blkK_r, condK_t, evK_some, appK_eq, appC_eq, srun_nil, srun_cons, fin_ret, sk_mv, sk_give, get_mk, raw_slot, put_some, wb_nil, ev_mv, ev_give, unrK_r, ro_int, List.map_cons, List.map_nil, List.getD_cons_zero, List.getD_cons_succ, List.set_cons_zero, List.set_cons_succ, Bool.false_eq_true, ↓reduceIte, Int.reduceNeg]
    exact ⟨_, .same, by rw [hb], rfl⟩
  have d0 : decide (n + 4 ≤ 80) = false := by simp; omega
  refine callK_intro (c 80) ?_
  simp (maxSteps := 2000000) (disch := first | omega | (simp only [List.length_append, List.length_cons, List.length_nil, List.length_map] <;> omega)) only [d0, stepK_callv, callvK_fn, exc_int, exc_fn, sk_idxB, idxB_ro, swp_seq, swp_reg, swp_skip, swp_block, swp_cond, seqK_n, blkK_n, condK_t, condK_f, evK_some, appK_eq, appC_eq, srun_nil, srun_cons, sk_mv, sk_take, sk_bin, sk_load, get_mk, raw_slot, raw_lit, put_some, wb_nil, ev_mv, ev_take, bin_add, bin_lss, unr_succ, unrK_n, ev_loadE, ro_int, ro_fn, ro_ro, got_int, pubs, pubsFrom, List.map_cons, List.map_nil, List.getD_cons_zero, List.getD_cons_succ, List.set_cons_zero, List.set_cons_succ, List.getElem?_cons_zero, List.getElem?_cons_succ, List.cons_append, List.nil_append, Bool.false_eq_true, Option.map_some, ↓reduceIte, decide_true, Nat.mul_one, Int.reduceLT, Int.reduceAdd, Int.reduceToNat, Int.reduceNeg, wrap_i64]
  by_cases c1 : n + 4 ≤ 320
  · have d0 : decide (n + 4 ≤ 320) = true := by simp; omega
    have hb : bucketF n = 1 := by unfold bucketF; rw [if_neg (by omega), if_neg (by omega), if_pos (by omega)]
    refine callK_intro (c 320) ?_
    simp (maxSteps := 2000000) (disch := first | omega | (simp only [List.length_append, List.length_cons, List.length_nil, List.length_map] <;> omega)) only [d0, flg_int, swp_seq, swp_reg, swp_ret, swp_cond, seqK_n, seqK_r, blkK_r, condK_t, evK_some, appK_eq, appC_eq, srun_nil, srun_cons, fin_ret, sk_mv, sk_give, get_mk, raw_slot, put_some, wb_nil, ev_mv, ev_give, unrK_r, ro_int, List.map_cons, List.map_nil, List.getD_cons_zero, List.getD_cons_succ, List.set_cons_zero, List.set_cons_succ, Bool.false_eq_true, ↓reduceIte, Int.reduceNeg]
    exact ⟨_, .same, by rw [hb], rfl⟩
  have d0 : decide (n + 4 ≤ 320) = false := by simp; omega
  refine callK_intro (c 320) ?_
  simp (maxSteps := 2000000) (disch := first | omega | (simp only [List.length_append, List.length_cons, List.length_nil, List.length_map] <;> omega)) only [d0, stepK_callv, callvK_fn, exc_int, exc_fn, sk_idxB, idxB_ro, swp_seq, swp_reg, swp_skip, swp_block, swp_cond, seqK_n, blkK_n, condK_t, condK_f, evK_some, appK_eq, appC_eq, srun_nil, srun_cons, sk_mv, sk_take, sk_bin, sk_load, get_mk, raw_slot, raw_lit, put_some, wb_nil, ev_mv, ev_take, bin_add, bin_lss, unr_succ, unrK_n, ev_loadE, ro_int, ro_fn, ro_ro, got_int, pubs, pubsFrom, List.map_cons, List.map_nil, List.getD_cons_zero, List.getD_cons_succ, List.set_cons_zero, List.set_cons_succ, List.getElem?_cons_zero, List.getElem?_cons_succ, List.cons_append, List.nil_append, Bool.false_eq_true, Option.map_some, ↓reduceIte, decide_true, Nat.mul_one, Int.reduceLT, Int.reduceAdd, Int.reduceToNat, Int.reduceNeg, wrap_i64]
  by_cases c2 : n + 4 ≤ 1280
  · have d0 : decide (n + 4 ≤ 1280) = true := by simp; omega
    have hb : bucketF n = 2 := by unfold bucketF; rw [if_neg (by omega), if_neg (by omega), if_neg (by omega), if_pos (by omega)]
    refine callK_intro (c 1280) ?_
    simp (maxSteps := 2000000) (disch := first | omega | (simp only [List.length_append, List.length_cons, List.length_nil, List.length_map] <;> omega)) only [d0, flg_int, swp_seq, swp_reg, swp_ret, swp_cond, seqK_n, seqK_r, blkK_r, condK_t, evK_some, appK_eq, appC_eq, srun_nil, srun_cons, fin_ret, sk_mv, sk_give, get_mk, raw_slot, put_some, wb_nil, ev_mv, ev_give, unrK_r, ro_int, List.map_cons, List.map_nil, List.getD_cons_zero, List.getD_cons_succ, List.set_cons_zero, List.set_cons_succ, Bool.false_eq_true, ↓reduceIte, Int.reduceNeg]
    exact ⟨_, .same, by rw [hb], rfl⟩
  have d0 : decide (n + 4 ≤ 1280) = false := by simp; omega
  refine callK_intro (c 1280) ?_
  simp (maxSteps := 2000000) (disch := first | omega | (simp only [List.length_append, List.length_cons, List.length_nil, List.length_map] <;> omega)) only [d0, stepK_callv, callvK_fn, exc_int, exc_fn, sk_idxB, idxB_ro, swp_seq, swp_reg, swp_skip, swp_block, swp_cond, seqK_n, blkK_n, condK_t, condK_f, evK_some, appK_eq, appC_eq, srun_nil, srun_cons, sk_mv, sk_take, sk_bin, sk_load, get_mk, raw_slot, raw_lit, put_some, wb_nil, ev_mv, ev_take, bin_add, bin_lss, unr_succ, unrK_n, ev_loadE, ro_int, ro_fn, ro_ro, got_int, pubs, pubsFrom, List.map_cons, List.map_nil, List.getD_cons_zero, List.getD_cons_succ, List.set_cons_zero, List.set_cons_succ, List.getElem?_cons_zero, List.getElem?_cons_succ, List.cons_append, List.nil_append, Bool.false_eq_true, Option.map_some, ↓reduceIte, decide_true, Nat.mul_one, Int.reduceLT, Int.reduceAdd, Int.reduceToNat, Int.reduceNeg, wrap_i64]
  by_cases c3 : n + 4 ≤ 5120
  · have d0 : decide (n + 4 ≤ 5120) = true := by simp; omega
    have hb : bucketF n = 3 := by unfold bucketF; rw [if_neg (by omega), if_neg (by omega), if_neg (by omega), if_neg (by omega), if_pos (by omega)]
    refine callK_intro (c 5120) ?_
    simp (maxSteps := 2000000) (disch := first | omega | (simp only [List.length_append, List.length_cons, List.length_nil, List.length_map] <;> omega)) only [d0, flg_int, swp_seq, swp_reg, swp_ret, swp_cond, seqK_n, seqK_r, blkK_r, condK_t, evK_some, appK_eq, appC_eq, srun_nil, srun_cons, fin_ret, sk_mv, sk_give, get_mk, raw_slot, put_some, wb_nil, ev_mv, ev_give, unrK_r, ro_int, List.map_cons, List.map_nil, List.getD_cons_zero, List.getD_cons_succ, List.set_cons_zero, List.set_cons_succ, Bool.false_eq_true, ↓reduceIte, Int.reduceNeg]
    exact ⟨_, .same, by rw [hb], rfl⟩
  have d0 : decide (n + 4 ≤ 5120) = false := by simp; omega
  have hb : bucketF n = -1 := by unfold bucketF; rw [if_neg (by omega), if_neg (by omega), if_neg (by omega), if_neg (by omega), if_neg (by omega)]
  refine callK_intro (c 5120) ?_
  simp (maxSteps := 2000000) (disch := first | omega | (simp only [List.length_append, List.length_cons, List.length_nil, List.length_map] <;> omega)) only [d0, flg_int, swp_seq, swp_reg, swp_skip, swp_ret, swp_exit, swp_cond, seqK_n, seqK_e, blkK_n, blkK_e, condK_f, evK_some, appK_eq, appC_eq, srun_nil, srun_cons, fin_ret, sk_mv, sk_give, sk_bin, get_mk, raw_slot, raw_lit, put_some, wb_nil, ev_mv, ev_give, bin_add, bin_lss, unr_succ, unrK_n, unrK_e, ro_int, List.map_cons, List.map_nil, List.getD_cons_zero, List.getD_cons_succ, List.set_cons_zero, List.set_cons_succ, Bool.false_eq_true, ↓reduceIte, decide_false, Int.reduceLT, Int.reduceAdd, Int.reduceNeg, wrap_i64]
  exact ⟨_, .same, by rw [hb], rfl⟩
def K48 : List SV → List Ob → SV → List Ob → Prop := fun args st r st' => st' = st ∧ ∃ n id, st[id]? = some (.cells [.int .i64 n]) ∧ 0 ≤ n ∧ n ≤ 16384 ∧ args = [.sl L4 4 .ro, .fn 34 [] [.ptr id 0]] ∧ r = .int .i64 (bucketF n)
def O33 : Orc := O32.add 32 K48
theorem s33 : Sound Proofs.Try.prog O33 := s32.add c32 (by kernel_rfl) (by
  rintro args st r st' ⟨rfl, n, id, h, h0, h1, rfl, rfl⟩
  exact ⟨by simp [sf32], k48 n id _ h h0 h1⟩)
theorem k39 (n : Int) (st : List Ob) (h : okSt st) : swpF O33 sf23 [.int .i64 n] st (fun r st' => r = .int .i64 (bucketF n) ∧ st' = st) := by
  have hg : (st ++ [.cells [.int .i64 n]])[st.length]? = some (.cells [.int .i64 n]) := get_end
  have hok : okSt (st ++ [.cells [.int .i64 n]]) := okSt_app h rfl
  by_cases h0 : n < 0
  · have d0 : decide (n < 0) = true := by simp; omega
    have hb : bucketF n = -1 := by unfold bucketF; rw [if_pos h0]
    simp (maxSteps := 2000000) (disch := first | omega | (simp only [List.length_append, List.length_cons, List.length_nil, List.length_map] <;> omega)) only [sf23, hg, d0, grd_t, ev_pick, flg_int, exc_int, swp_seq, swp_reg, swp_ret, swp_cond, seqK_n, seqK_r, condK_t, evK_some, appK_eq, grd_t, srun_nil, srun_cons, stepK_grd, fin_ret, swpF_eq, sk_mv, sk_give, sk_pick, sk_bin, sk_load, sk_box, get_mk, raw_slot, raw_lit, put_some, wb_nil, ev_mv, ev_give, ev_pick, bin_lss, ev_box, ev_ldP, ldP_some, ro_int, ro_bool, got_int, List.map_cons, List.map_nil, List.getD_cons_zero, List.getD_cons_succ, List.set_cons_zero, List.set_cons_succ, List.getElem?_cons_zero, List.length_cons, List.length_nil, List.replicate_succ, List.replicate_zero, List.cons_append, List.nil_append, Nat.reduceSub, Bool.false_eq_true, Option.map_some, ↓reduceIte, List.all_cons, List.all_nil, Bool.and_self, cellsV, isCell, Nat.zero_add, reduceCtorEq, Int.reduceNeg]
    exact ⟨st, trim1 h rfl, by rw [hb], rfl⟩
  have d0 : decide (n < 0) = false := by simp; omega
  by_cases h1 : n ≤ 16384
  case neg =>
    have d1 : decide (16384 < n) = true := by simp; omega
    have hb : bucketF n = -1 := by unfold bucketF; rw [if_neg h0, if_neg (by omega), if_neg (by omega), if_neg (by omega), if_neg (by omega)]
    simp (maxSteps := 2000000) (disch := first | omega | (simp only [List.length_append, List.length_cons, List.length_nil, List.length_map] <;> omega)) only [sf23, hg, d0, d1, grd_t, ev_pick, flg_int, exc_int, swp_seq, swp_reg, swp_ret, swp_cond, seqK_n, seqK_r, condK_t, evK_some, appK_eq, grd_t, srun_nil, srun_cons, stepK_grd, fin_ret, swpF_eq, sk_mv, sk_give, sk_pick, sk_bin, sk_load, sk_box, get_mk, raw_slot, raw_lit, put_some, wb_nil, ev_mv, ev_give, ev_pick, bin_lss, bin_gtr, ev_box, ev_ldP, ldP_some, ro_int, ro_bool, got_int, List.map_cons, List.map_nil, List.getD_cons_zero, List.getD_cons_succ, List.set_cons_zero, List.set_cons_succ, List.getElem?_cons_zero, List.length_cons, List.length_nil, List.replicate_succ, List.replicate_zero, List.cons_append, List.nil_append, Nat.reduceSub, Bool.false_eq_true, Option.map_some, ↓reduceIte, List.all_cons, List.all_nil, Bool.and_self, cellsV, isCell, Nat.zero_add, gt_iff_lt, Int.reduceNeg]
    exact ⟨st, trim1 h rfl, by rw [hb], rfl⟩
  have d1 : decide (16384 < n) = false := by simp; omega
  have c43 : O33 33 [] (st ++ [.cells [.int .i64 n]]) (.sl L4 4 (.excl 1)) (st ++ [.cells [.int .i64 n]]) := .inl (.inl (.inr ⟨rfl, hok, rfl, rfl, rfl⟩))
  have c48 : O33 32 [.sl L4 4 .ro, .fn 34 [] [.ptr st.length 0]] (st ++ [.cells [.int .i64 n]]) (.int .i64 (bucketF n)) (st ++ [.cells [.int .i64 n]]) := .inr ⟨rfl, rfl, n, st.length, hg, by omega, h1, rfl, rfl⟩
  simp (maxSteps := 2000000) (disch := first | omega | (simp only [List.length_append, List.length_cons, List.length_nil, List.length_map] <;> omega)) only [sf23, hg, d0, d1, grd_t, ev_pick, flg_int, exc_int, swp_seq, swp_reg, swp_skip, swp_cond, seqK_n, condK_f, evK_some, appK_eq, grd_t, srun_nil, srun_cons, stepK_call, stepK_grd, swpF_eq, sk_mv, sk_give, sk_pick, sk_bin, sk_load, sk_box, get_mk, raw_slot, raw_lit, put_some, wb_nil, ev_mv, ev_give, ev_pick, bin_lss, bin_gtr, ev_box, ev_ldP, ldP_some, ro_int, ro_bool, got_int, pubs, pubsFrom, List.map_cons, List.map_nil, List.getD_cons_zero, List.getD_cons_succ, List.set_cons_zero, List.set_cons_succ, List.getElem?_cons_zero, List.length_cons, List.length_nil, List.replicate_succ, List.replicate_zero, List.cons_append, List.nil_append, Nat.reduceSub, Bool.false_eq_true, Option.map_some, ↓reduceIte, List.all_cons, List.all_nil, Bool.and_self, cellsV, isCell, Nat.zero_add, gt_iff_lt, Int.reduceNeg]
  refine callK_intro c43 ?_
  simp (maxSteps := 2000000) (disch := first | omega | (simp only [List.length_append, List.length_cons, List.length_nil, List.length_map] <;> omega)) only [show ∀ s i, ev s (.mfn 34 0 1) [.ptr i 0] = some (.fn 34 [] [.ptr i 0], [], s) from fun _ _ => rfl, pub_excl2, exc_fn, exc_excl, evK_some, appK_eq, appC_eq, srun_cons, stepK_call, sk_mfn, get_mk, raw_slot, put_some, wb_nil, got_excl, got_fn, pubs, pubsFrom, List.map_cons, List.map_nil, List.getD_cons_zero, List.getD_cons_succ, List.set_cons_zero, List.set_cons_succ, Bool.false_eq_true, ↓reduceIte]
  refine callK_intro c48 ?_
  simp (maxSteps := 2000000) (disch := first | omega | (simp only [List.length_append, List.length_cons, List.length_nil, List.length_map] <;> omega)) only [flg_int, swp_ret, seqK_n, evK_some, appK_eq, appC_eq, srun_nil, srun_cons, fin_ret, sk_give, get_mk, raw_slot, put_some, wb_nil, wb_cons, ev_give, ro_int, List.map_cons, List.map_nil, List.getD_cons_zero, List.getD_cons_succ, List.set_cons_zero, List.set_cons_succ, List.getElem?_cons_zero, true_and, Bool.false_eq_true, ↓reduceIte]
  exact ⟨st, trim1 h rfl, rfl⟩
def K39 : List SV → List Ob → SV → List Ob → Prop := fun args st r st' => okSt st ∧ ∃ n, args = [.int .i64 n] ∧ r = .int .i64 (bucketF n) ∧ st' = st
def O34 : Orc := O33.add 23 K39
theorem s34 : Sound Proofs.Try.prog O34 := s33.add c23 (by kernel_rfl) (by
  rintro args st r st' ⟨h, n, rfl, rfl, rfl⟩
  exact ⟨by simp [sf23], k39 n _ h⟩)
theorem k41 (k : Int) (st : List Ob) (h : okSt st) : swpF O34 sf30 [.int .i64 k] st (fun r st' => r = .int .i64 (sizeF k) ∧ st' = st) := by
  have c50 : O34 35 [] st (.agg L4) st := .inl (.inl (.inl (.inl (.inl (.inr ⟨rfl, h, rfl, rfl, rfl⟩)))))
  by_cases h0 : k < 0
  · have d0 : decide (k < 0) = true := by simp; omega
    have hb : sizeF k = 0 := by unfold sizeF; rw [if_neg (by omega), if_neg (by omega), if_neg (by omega), if_neg (by omega)]
    simp (maxSteps := 2000000) (disch := first | omega | (simp only [List.length_append, List.length_cons, List.length_nil, List.length_map] <;> omega)) only [sf30, d0, grd_t, ev_pick, flg_int, swp_seq, swp_reg, swp_ret, swp_cond, seqK_n, seqK_r, condK_t, evK_some, appK_eq, grd_t, srun_nil, srun_cons, stepK_grd, fin_ret, swpF_eq, sk_mv, sk_give, sk_pick, sk_bin, get_mk, raw_slot, raw_lit, put_some, wb_nil, ev_mv, ev_give, ev_pick, bin_lss, ro_int, ro_bool, List.map_cons, List.map_nil, List.getD_cons_zero, List.getD_cons_succ, List.set_cons_zero, List.set_cons_succ, List.length_cons, List.length_nil, List.replicate_succ, List.replicate_zero, List.cons_append, List.nil_append, Nat.reduceSub, Bool.false_eq_true, ↓reduceIte, Nat.zero_add, reduceCtorEq]
    exact ⟨_, .same, by rw [hb], rfl⟩
  have d0 : decide (k < 0) = false := by simp; omega
  by_cases h1 : k < 4
  case neg =>
    have d1 : decide (4 ≤ k) = true := by simp; omega
    have hb : sizeF k = 0 := by unfold sizeF; rw [if_neg (by omega), if_neg (by omega), if_neg (by omega), if_neg (by omega)]
    simp (maxSteps := 2000000) (disch := first | omega | (simp only [List.length_append, List.length_cons, List.length_nil, List.length_map] <;> omega)) only [sf30, d0, grd_t, flg_int, exc_int, swp_seq, swp_reg, seqK_n, evK_some, appK_eq, grd_t, srun_nil, srun_cons, stepK_call, stepK_grd, swpF_eq, sk_mv, sk_take, sk_give, sk_bin, get_mk, raw_slot, raw_lit, put_some, wb_nil, ev_mv, ev_take, ev_give, bin_lss, ro_int, ro_bool, got_int, pubs, pubsFrom, List.map_cons, List.map_nil, List.getD_cons_zero, List.getD_cons_succ, List.set_cons_zero, List.set_cons_succ, List.length_cons, List.length_nil, List.replicate_succ, List.replicate_zero, List.cons_append, List.nil_append, Nat.reduceSub, Bool.false_eq_true, ↓reduceIte, Nat.zero_add]
    refine callK_intro c50 ?_
    simp (maxSteps := 2000000) (disch := first | omega | (simp only [List.length_append, List.length_cons, List.length_nil, List.length_map] <;> omega)) only [d1, grd_t, ev_pick, flg_int, exc_int, swp_seq, swp_reg, swp_ret, swp_cond, seqK_n, seqK_r, condK_t, evK_some, appK_eq, appC_eq, grd_t, srun_nil, srun_cons, stepK_grd, fin_ret, sk_take, sk_give, sk_pick, sk_bin, get_mk, raw_slot, raw_lit, put_some, wb_nil, ev_take, ev_give, ev_pick, bin_geq, ro_int, ro_bool, got_int, List.map_cons, List.map_nil, List.getD_cons_zero, List.getD_cons_succ, List.set_cons_zero, List.set_cons_succ, Bool.false_eq_true, ↓reduceIte, ge_iff_le]
    exact ⟨_, .same, by rw [hb], rfl⟩
  have d1 : decide (4 ≤ k) = false := by simp; omega
  have hx : ev st (.idxV 1 4 false) [.agg L4, .int .i64 k] = some (.int .i64 (sizeF k), [], st) := by
    have hk : k = 0 ∨ k = 1 ∨ k = 2 ∨ k = 3 := by omega
    rcases hk with rfl | rfl | rfl | rfl <;> rfl
  simp (maxSteps := 2000000) (disch := first | omega | (simp only [List.length_append, List.length_cons, List.length_nil, List.length_map] <;> omega)) only [sf30, d0, grd_t, flg_int, exc_int, swp_seq, swp_reg, seqK_n, evK_some, appK_eq, grd_t, srun_nil, srun_cons, stepK_call, stepK_grd, swpF_eq, sk_mv, sk_take, sk_give, sk_bin, get_mk, raw_slot, raw_lit, put_some, wb_nil, ev_mv, ev_take, ev_give, bin_lss, ro_int, ro_bool, got_int, pubs, pubsFrom, List.map_cons, List.map_nil, List.getD_cons_zero, List.getD_cons_succ, List.set_cons_zero, List.set_cons_succ, List.length_cons, List.length_nil, List.replicate_succ, List.replicate_zero, List.cons_append, List.nil_append, Nat.reduceSub, Bool.false_eq_true, ↓reduceIte, Nat.zero_add]
  refine callK_intro c50 ?_
  simp (maxSteps := 2000000) (disch := first | omega | (simp only [List.length_append, List.length_cons, List.length_nil, List.length_map] <;> omega)) only [d1, grd_t, ev_pick, exc_int, swp_seq, swp_reg, swp_skip, swp_cond, seqK_n, condK_f, evK_some, appK_eq, appC_eq, grd_t, srun_nil, srun_cons, stepK_call, stepK_grd, sk_take, sk_pick, sk_bin, get_mk, raw_slot, raw_lit, put_some, wb_nil, ev_take, ev_pick, bin_geq, ro_bool, got_int, pubs, pubsFrom, List.map_cons, List.map_nil, List.getD_cons_zero, List.getD_cons_succ, List.set_cons_zero, List.set_cons_succ, Bool.false_eq_true, ↓reduceIte, ge_iff_le]
  refine callK_intro c50 ?_
  simp (maxSteps := 2000000) (disch := first | omega | (simp only [List.length_append, List.length_cons, List.length_nil, List.length_map] <;> omega)) only [hx, flg_int, swp_ret, seqK_n, evK_some, appK_eq, appC_eq, srun_nil, srun_cons, fin_ret, sk_mv, sk_give, sk_idxV, get_mk, raw_slot, put_some, wb_nil, ev_mv, ev_give, ro_int, List.map_cons, List.map_nil, List.getD_cons_zero, List.getD_cons_succ, List.set_cons_zero, List.set_cons_succ, true_and, Bool.false_eq_true, ↓reduceIte]
  exact ⟨_, .same, rfl⟩
def K41 : List SV → List Ob → SV → List Ob → Prop := fun args st r st' => okSt st ∧ ∃ n, args = [.int .i64 n] ∧ r = .int .i64 (sizeF n) ∧ st' = st
def O35 : Orc := O34.add 30 K41
theorem s35 : Sound Proofs.Try.prog O35 := s34.add c30 (by kernel_rfl) (by
  rintro args st r st' ⟨h, n, rfl, rfl, rfl⟩
  exact ⟨by simp [sf30], k41 n _ h⟩)
theorem k42 (O : Orc) (k : Int) (st : List Ob) : swpF O sf31 [.int .i64 k] st (fun r st' => r = .int .i64 (sizeF k) ∧ st' = st) := by
  have hk : k = 0 ∨ k = 1 ∨ k = 2 ∨ k = 3 ∨ (k ≠ 0 ∧ k ≠ 1 ∧ k ≠ 2 ∧ k ≠ 3) := by omega
  rcases hk with rfl | rfl | rfl | rfl | ⟨a0, a1, a2, a3⟩
  · simp (maxSteps := 2000000) (disch := first | omega | (simp only [List.length_append, List.length_cons, List.length_nil, List.length_map] <;> omega)) only [sf31, flg_bool, flg_int, swp_seq, swp_reg, swp_ret, swp_block, swp_cond, seqK_n, seqK_r, blkK_r, condK_t, evK_some, appK_eq, srun_nil, srun_cons, fin_ret, swpF_eq, sk_mv, sk_give, sk_bin, get_mk, raw_slot, raw_lit, put_some, wb_nil, ev_mv, ev_give, bin_eql, ro_int, ro_bool, List.map_cons, List.map_nil, List.getD_cons_zero, List.getD_cons_succ, List.set_cons_zero, List.set_cons_succ, List.length_cons, List.length_nil, List.replicate_succ, List.replicate_zero, List.cons_append, List.nil_append, Nat.reduceSub, Bool.false_eq_true, ↓reduceIte, Nat.zero_add, beq_self_eq_true]
    exact ⟨_, .same, rfl, rfl⟩
  · simp (maxSteps := 2000000) (disch := first | omega | (simp only [List.length_append, List.length_cons, List.length_nil, List.length_map] <;> omega)) only [sf31, flg_bool, flg_int, swp_seq, swp_reg, swp_ret, swp_block, swp_cond, seqK_n, seqK_r, blkK_r, condK_t, condK_f, evK_some, appK_eq, srun_nil, srun_cons, fin_ret, swpF_eq, sk_mv, sk_give, sk_bin, get_mk, raw_slot, raw_lit, put_some, wb_nil, ev_mv, ev_give, bin_eql, ro_int, ro_bool, List.map_cons, List.map_nil, List.getD_cons_zero, List.getD_cons_succ, List.set_cons_zero, List.set_cons_succ, List.length_cons, List.length_nil, List.replicate_succ, List.replicate_zero, List.cons_append, List.nil_append, Nat.reduceSub, Bool.false_eq_true, ↓reduceIte, Nat.zero_add, beq_self_eq_true, Int.reduceBEq]
    exact ⟨_, .same, rfl, rfl⟩
  · simp (maxSteps := 2000000) (disch := first | omega | (simp only [List.length_append, List.length_cons, List.length_nil, List.length_map] <;> omega)) only [sf31, flg_bool, flg_int, swp_seq, swp_reg, swp_ret, swp_block, swp_cond, seqK_n, seqK_r, blkK_r, condK_t, condK_f, evK_some, appK_eq, srun_nil, srun_cons, fin_ret, swpF_eq, sk_mv, sk_give, sk_bin, get_mk, raw_slot, raw_lit, put_some, wb_nil, ev_mv, ev_give, bin_eql, ro_int, ro_bool, List.map_cons, List.map_nil, List.getD_cons_zero, List.getD_cons_succ, List.set_cons_zero, List.set_cons_succ, List.length_cons, List.length_nil, List.replicate_succ, List.replicate_zero, List.cons_append, List.nil_append, Nat.reduceSub, Bool.false_eq_true, ↓reduceIte, Nat.zero_add, beq_self_eq_true, Int.reduceBEq]
    exact ⟨_, .same, rfl, rfl⟩
  · simp (maxSteps := 2000000) (disch := first | omega | (simp only [List.length_append, List.length_cons, List.length_nil, List.length_map] <;> omega)) only [sf31, flg_bool, flg_int, swp_seq, swp_reg, swp_ret, swp_block, swp_cond, seqK_n, seqK_r, blkK_r, condK_t, condK_f, evK_some, appK_eq, srun_nil, srun_cons, fin_ret, swpF_eq, sk_mv, sk_give, sk_bin, get_mk, raw_slot, raw_lit, put_some, wb_nil, ev_mv, ev_give, bin_eql, ro_int, ro_bool, List.map_cons, List.map_nil, List.getD_cons_zero, List.getD_cons_succ, List.set_cons_zero, List.set_cons_succ, List.length_cons, List.length_nil, List.replicate_succ, List.replicate_zero, List.cons_append, List.nil_append, Nat.reduceSub, Bool.false_eq_true, ↓reduceIte, Nat.zero_add, beq_self_eq_true, Int.reduceBEq]
    exact ⟨_, .same, rfl, rfl⟩
  · have b0 : (k == 0) = false := by simpa using a0
    have b1 : (k == 1) = false := by simpa using a1
    have b2 : (k == 2) = false := by simpa using a2
    have b3 : (k == 3) = false := by simpa using a3
    simp (maxSteps := 2000000) (disch := first | omega | (simp only [List.length_append, List.length_cons, List.length_nil, List.length_map] <;> omega)) only [sf31, b0, b1, b2, b3, flg_bool, flg_int, swp_seq, swp_reg, swp_skip, swp_ret, swp_block, swp_cond, seqK_n, blkK_n, condK_f, evK_some, appK_eq, srun_nil, srun_cons, fin_ret, swpF_eq, sk_mv, sk_give, sk_bin, get_mk, raw_slot, raw_lit, put_some, wb_nil, ev_mv, ev_give, bin_eql, ro_int, ro_bool, List.map_cons, List.map_nil, List.getD_cons_zero, List.getD_cons_succ, List.set_cons_zero, List.set_cons_succ, List.length_cons, List.length_nil, List.replicate_succ, List.replicate_zero, List.cons_append, List.nil_append, Nat.reduceSub, Bool.false_eq_true, ↓reduceIte, Nat.zero_add]
    exact ⟨_, .same, by unfold sizeF; rw [if_neg a0, if_neg a1, if_neg a2, if_neg a3], rfl⟩
def K42 : List SV → List Ob → SV → List Ob → Prop := fun args st r st' => ∃ n, args = [.int .i64 n] ∧ r = .int .i64 (sizeF n) ∧ st' = st
def O36 : Orc := O35.add 31 K42
theorem s36 : Sound Proofs.Try.prog O36 := s35.add c31 (by kernel_rfl) (by
  rintro args st r st' ⟨n, rfl, rfl, rfl⟩
  exact ⟨by simp [sf31], k42 _ n _⟩)
theorem k40 (n : Int) (st : List Ob) : swpF O36 sf26 [.int .i64 n] st (fun r st' => r = .int .i64 (bucketF n) ∧ st' = st) := by
  have c : ∀ k x, sizeF k = x → O36 31 [.int .i64 k] st (.int .i64 x) st := fun k x h => .inr ⟨rfl, k, rfl, by rw [h], rfl⟩
  by_cases h0 : n < 0
  · have d0 : decide (0 ≤ n) = false := by simp; omega
    have hb : bucketF n = -1 := by unfold bucketF; rw [if_pos h0]
    simp (maxSteps := 2000000) (disch := first | omega | (simp only [List.length_append, List.length_cons, List.length_nil, List.length_map] <;> omega)) only [sf26, flg_int, exc_int, swp_seq, swp_reg, swp_block, seqK_n, evK_some, appK_eq, srun_nil, srun_cons, swpF_eq, sk_take, sk_give, raw_lit, put_some, wb_nil, ev_take, ev_give, ro_int, got_int, List.map_cons, List.map_nil, List.set_cons_zero, List.set_cons_succ, List.length_cons, List.length_nil, List.replicate_succ, List.replicate_zero, List.cons_append, List.nil_append, Nat.reduceSub, Bool.false_eq_true, ↓reduceIte, Nat.zero_add, Int.reduceNeg]
    refine swp_unroll 1 ?_
    simp (maxSteps := 2000000) (disch := first | omega | (simp only [List.length_append, List.length_cons, List.length_nil, List.length_map] <;> omega)) only [d0, grd_t, ev_pick, flg_int, exc_int, swp_seq, swp_reg, swp_ret, swp_exit, swp_cond, seqK_n, seqK_e, blkK_e, condK_f, evK_some, appK_eq, grd_t, srun_nil, srun_cons, stepK_grd, fin_ret, sk_mv, sk_take, sk_give, sk_pick, sk_bin, get_mk, raw_slot, raw_lit, put_some, wb_nil, ev_mv, ev_take, ev_give, ev_pick, bin_lss, bin_geq, unr_succ, unrK_e, ro_int, ro_bool, got_int, List.map_cons, List.map_nil, List.getD_cons_zero, List.getD_cons_succ, List.set_cons_zero, List.set_cons_succ, Bool.false_eq_true, ↓reduceIte, decide_true, ge_iff_le, Int.reduceLT, Int.reduceNeg]
    exact ⟨_, .same, by rw [hb], rfl⟩
  have d0 : decide (0 ≤ n) = true := by simp; omega
  simp (maxSteps := 2000000) (disch := first | omega | (simp only [List.length_append, List.length_cons, List.length_nil, List.length_map] <;> omega)) only [sf26, flg_int, exc_int, swp_seq, swp_reg, swp_block, seqK_n, evK_some, appK_eq, srun_nil, srun_cons, swpF_eq, sk_take, sk_give, raw_lit, put_some, wb_nil, ev_take, ev_give, ro_int, got_int, List.map_cons, List.map_nil, List.set_cons_zero, List.set_cons_succ, List.length_cons, List.length_nil, List.replicate_succ, List.replicate_zero, List.cons_append, List.nil_append, Nat.reduceSub, Bool.false_eq_true, ↓reduceIte, Nat.zero_add, Int.reduceNeg]
  refine swp_unroll 5 ?_
  simp (maxSteps := 2000000) (disch := first | omega | (simp only [List.length_append, List.length_cons, List.length_nil, List.length_map] <;> omega)) only [d0, grd_t, ev_pick, exc_int, swp_seq, swp_reg, swp_skip, swp_block, swp_cond, seqK_n, condK_t, evK_some, appK_eq, grd_t, srun_nil, srun_cons, stepK_call, stepK_grd, sk_mv, sk_take, sk_pick, sk_bin, get_mk, raw_slot, raw_lit, put_some, wb_nil, ev_mv, ev_take, ev_pick, bin_lss, bin_geq, unr_succ, ro_int, ro_bool, got_int, pubs, pubsFrom, List.map_cons, List.map_nil, List.getD_cons_zero, List.getD_cons_succ, List.set_cons_zero, List.set_cons_succ, Bool.false_eq_true, ↓reduceIte, decide_true, ge_iff_le, Int.reduceLT, Int.reduceNeg]
  by_cases c0 : n ≤ 76
  · have e0 : decide (n ≤ 76) = true := by simp; omega
    have hb : bucketF n = 0 := by unfold bucketF; rw [if_neg (by omega), if_pos (by omega)]
    refine callK_intro (c 0 80 rfl) ?_
    simp (maxSteps := 2000000) (disch := first | omega | (simp only [List.length_append, List.length_cons, List.length_nil, List.length_map] <;> omega)) only [e0, flg_int, swp_seq, swp_reg, swp_ret, swp_cond, seqK_n, seqK_r, blkK_r, condK_t, evK_some, appK_eq, appC_eq, srun_nil, srun_cons, fin_ret, sk_mv, sk_give, sk_bin, get_mk, raw_slot, raw_lit, put_some, wb_nil, ev_mv, ev_give, bin_sub, bin_geq, unrK_r, ro_int, List.map_cons, List.map_nil, List.getD_cons_zero, List.getD_cons_succ, List.set_cons_zero, List.set_cons_succ, Bool.false_eq_true, ↓reduceIte, ge_iff_le, Int.reduceSub, Int.reduceNeg, wrap_i64]
    exact ⟨_, .same, by rw [hb], rfl⟩
  have e0 : decide (n ≤ 76) = false := by simp; omega
  refine callK_intro (c 0 80 rfl) ?_
  simp (maxSteps := 2000000) (disch := first | omega | (simp only [List.length_append, List.length_cons, List.length_nil, List.length_map] <;> omega)) only [e0, d0, grd_t, ev_pick, flg_int, exc_int, swp_seq, swp_reg, swp_skip, swp_block, swp_cond, seqK_n, blkK_n, condK_t, condK_f, evK_some, appK_eq, appC_eq, grd_t, srun_nil, srun_cons, stepK_call, stepK_grd, sk_mv, sk_take, sk_give, sk_pick, sk_bin, get_mk, raw_slot, raw_lit, put_some, wb_nil, ev_mv, ev_take, ev_give, ev_pick, bin_add, bin_sub, bin_lss, bin_geq, unr_succ, unrK_n, ro_int, ro_bool, got_int, pubs, pubsFrom, List.map_cons, List.map_nil, List.getD_cons_zero, List.getD_cons_succ, List.set_cons_zero, List.set_cons_succ, Bool.false_eq_true, ↓reduceIte, decide_true, ge_iff_le, Int.reduceLT, Int.reduceSub, Int.reduceAdd, Int.reduceNeg, wrap_i64]
  by_cases c1 : n ≤ 316
  · have e0 : decide (n ≤ 316) = true := by simp; omega
    have hb : bucketF n = 1 := by unfold bucketF; rw [if_neg (by omega), if_neg (by omega), if_pos (by omega)]
    refine callK_intro (c 1 320 rfl) ?_
    simp (maxSteps := 2000000) (disch := first | omega | (simp only [List.length_append, List.length_cons, List.length_nil, List.length_map] <;> omega)) only [e0, flg_int, swp_seq, swp_reg, swp_ret, swp_cond, seqK_n, seqK_r, blkK_r, condK_t, evK_some, appK_eq, appC_eq, srun_nil, srun_cons, fin_ret, sk_mv, sk_give, sk_bin, get_mk, raw_slot, raw_lit, put_some, wb_nil, ev_mv, ev_give, bin_sub, bin_geq, unrK_r, ro_int, List.map_cons, List.map_nil, List.getD_cons_zero, List.getD_cons_succ, List.set_cons_zero, List.set_cons_succ, Bool.false_eq_true, ↓reduceIte, ge_iff_le, Int.reduceSub, Int.reduceNeg, wrap_i64]
    exact ⟨_, .same, by rw [hb], rfl⟩
  have e0 : decide (n ≤ 316) = false := by simp; omega
  refine callK_intro (c 1 320 rfl) ?_
  simp (maxSteps := 2000000) (disch := first | omega | (simp only [List.length_append, List.length_cons, List.length_nil, List.length_map] <;> omega)) only [e0, d0, grd_t, ev_pick, flg_int, exc_int, swp_seq, swp_reg, swp_skip, swp_block, swp_cond, seqK_n, blkK_n, condK_t, condK_f, evK_some, appK_eq, appC_eq, grd_t, srun_nil, srun_cons, stepK_call, stepK_grd, sk_mv, sk_take, sk_give, sk_pick, sk_bin, get_mk, raw_slot, raw_lit, put_some, wb_nil, ev_mv, ev_take, ev_give, ev_pick, bin_add, bin_sub, bin_lss, bin_geq, unr_succ, unrK_n, ro_int, ro_bool, got_int, pubs, pubsFrom, List.map_cons, List.map_nil, List.getD_cons_zero, List.getD_cons_succ, List.set_cons_zero, List.set_cons_succ, Bool.false_eq_true, ↓reduceIte, decide_true, ge_iff_le, Int.reduceLT, Int.reduceSub, Int.reduceAdd, Int.reduceNeg, wrap_i64]
  by_cases c2 : n ≤ 1276
  · have e0 : decide (n ≤ 1276) = true := by simp; omega
    have hb : bucketF n = 2 := by unfold bucketF; rw [if_neg (by omega), if_neg (by omega), if_neg (by omega), if_pos (by omega)]
    refine callK_intro (c 2 1280 rfl) ?_
    simp (maxSteps := 2000000) (disch := first | omega | (simp only [List.length_append, List.length_cons, List.length_nil, List.length_map] <;> omega)) only [e0, flg_int, swp_seq, swp_reg, swp_ret, swp_cond, seqK_n, seqK_r, blkK_r, condK_t, evK_some, appK_eq, appC_eq, srun_nil, srun_cons, fin_ret, sk_mv, sk_give, sk_bin, get_mk, raw_slot, raw_lit, put_some, wb_nil, ev_mv, ev_give, bin_sub, bin_geq, unrK_r, ro_int, List.map_cons, List.map_nil, List.getD_cons_zero, List.getD_cons_succ, List.set_cons_zero, List.set_cons_succ, Bool.false_eq_true, ↓reduceIte, ge_iff_le, Int.reduceSub, Int.reduceNeg, wrap_i64]
    exact ⟨_, .same, by rw [hb], rfl⟩
  have e0 : decide (n ≤ 1276) = false := by simp; omega
  refine callK_intro (c 2 1280 rfl) ?_
  simp (maxSteps := 2000000) (disch := first | omega | (simp only [List.length_append, List.length_cons, List.length_nil, List.length_map] <;> omega)) only [e0, d0, grd_t, ev_pick, flg_int, exc_int, swp_seq, swp_reg, swp_skip, swp_block, swp_cond, seqK_n, blkK_n, condK_t, condK_f, evK_some, appK_eq, appC_eq, grd_t, srun_nil, srun_cons, stepK_call, stepK_grd, sk_mv, sk_take, sk_give, sk_pick, sk_bin, get_mk, raw_slot, raw_lit, put_some, wb_nil, ev_mv, ev_take, ev_give, ev_pick, bin_add, bin_sub, bin_lss, bin_geq, unr_succ, unrK_n, ro_int, ro_bool, got_int, pubs, pubsFrom, List.map_cons, List.map_nil, List.getD_cons_zero, List.getD_cons_succ, List.set_cons_zero, List.set_cons_succ, Bool.false_eq_true, ↓reduceIte, decide_true, ge_iff_le, Int.reduceLT, Int.reduceSub, Int.reduceAdd, Int.reduceNeg, wrap_i64]
  by_cases c3 : n ≤ 5116
  · have e0 : decide (n ≤ 5116) = true := by simp; omega
    have hb : bucketF n = 3 := by unfold bucketF; rw [if_neg (by omega), if_neg (by omega), if_neg (by omega), if_neg (by omega), if_pos (by omega)]
    refine callK_intro (c 3 5120 rfl) ?_
    simp (maxSteps := 2000000) (disch := first | omega | (simp only [List.length_append, List.length_cons, List.length_nil, List.length_map] <;> omega)) only [e0, flg_int, swp_seq, swp_reg, swp_ret, swp_cond, seqK_n, seqK_r, blkK_r, condK_t, evK_some, appK_eq, appC_eq, srun_nil, srun_cons, fin_ret, sk_mv, sk_give, sk_bin, get_mk, raw_slot, raw_lit, put_some, wb_nil, ev_mv, ev_give, bin_sub, bin_geq, unrK_r, ro_int, List.map_cons, List.map_nil, List.getD_cons_zero, List.getD_cons_succ, List.set_cons_zero, List.set_cons_succ, Bool.false_eq_true, ↓reduceIte, ge_iff_le, Int.reduceSub, Int.reduceNeg, wrap_i64]
    exact ⟨_, .same, by rw [hb], rfl⟩
  have e0 : decide (n ≤ 5116) = false := by simp; omega
  have hb : bucketF n = -1 := by unfold bucketF; rw [if_neg (by omega), if_neg (by omega), if_neg (by omega), if_neg (by omega), if_neg (by omega)]
  refine callK_intro (c 3 5120 rfl) ?_
  simp (maxSteps := 2000000) (disch := first | omega | (simp only [List.length_append, List.length_cons, List.length_nil, List.length_map] <;> omega)) only [e0, grd_t, ev_pick, flg_int, swp_seq, swp_reg, swp_skip, swp_ret, swp_exit, swp_cond, seqK_n, seqK_e, blkK_n, blkK_e, condK_f, evK_some, appK_eq, appC_eq, grd_t, srun_nil, srun_cons, stepK_grd, fin_ret, sk_mv, sk_give, sk_pick, sk_bin, get_mk, raw_slot, raw_lit, put_some, wb_nil, ev_mv, ev_give, ev_pick, bin_add, bin_sub, bin_lss, bin_geq, unr_succ, unrK_n, unrK_e, ro_int, ro_bool, List.map_cons, List.map_nil, List.getD_cons_zero, List.getD_cons_succ, List.set_cons_zero, List.set_cons_succ, Bool.false_eq_true, ↓reduceIte, decide_false, ge_iff_le, Int.reduceLT, Int.reduceSub, Int.reduceAdd, Int.reduceNeg, wrap_i64]
  exact ⟨_, .same, by rw [hb], rfl⟩
def K40 : List SV → List Ob → SV → List Ob → Prop := fun args st r st' => ∃ n, args = [.int .i64 n] ∧ r = .int .i64 (bucketF n) ∧ st' = st
def O37 : Orc := O36.add 26 K40
theorem s37 : Sound Proofs.Try.prog O37 := s36.add c26 (by kernel_rfl) (by
  rintro args st r st' ⟨n, rfl, rfl, rfl⟩
  exact ⟨by simp [sf26], k40 n _⟩)
end Go.Sh.F
