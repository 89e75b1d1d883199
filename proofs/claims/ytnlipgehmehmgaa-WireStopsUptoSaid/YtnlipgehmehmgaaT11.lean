/-
  WireNumbers, in the shadow machine.
-/
import Derived.Test.YtnlipgehmehmgaaT10
set_option linter.unusedSimpArgs false
set_option linter.unusedVariables false
namespace Go.Sh.F
theorem be4_lt {a b : Nat} (ha : a ≤ 4294967295) (hb : b ≤ 4294967295) : Op.bytesLess (be4 a) (be4 b) = decide (a < b) := by
  have e1 : ∀ x y : Nat, x < 256 → y < 256 → (UInt8.ofNat x < UInt8.ofNat y ↔ x < y) := by
    intro x y hx hy
    rw [UInt8.lt_iff_toNat_lt]
    simp only [UInt8.toNat_ofNat']
    omega
  have e2 : ∀ x y : Nat, x < 256 → y < 256 → ((UInt8.ofNat x == UInt8.ofNat y) = true ↔ x = y) := by
    intro x y hx hy
    rw [beq_iff_eq, ← UInt8.toNat_inj]
    simp only [UInt8.toNat_ofNat']
    omega
  have m : ∀ k : Nat, UInt8.ofNat k = UInt8.ofNat (k % 256) := by
    intro k
    rw [← UInt8.toNat_inj]
    simp
  rw [Bool.eq_iff_iff]
  simp only [be4, Op.bytesLess, m (a / 65536), m (a / 256), m a, m (b / 65536), m (b / 256), m b, Bool.or_eq_true, Bool.and_eq_true, decide_eq_true_eq, Bool.false_eq_true, and_false, or_false]
  rw [e1 _ _ (by omega) (by omega), e1 _ _ (by omega) (by omega), e1 _ _ (by omega) (by omega), e1 _ _ (by omega) (by omega), e2 _ _ (by omega) (by omega), e2 _ _ (by omega) (by omega), e2 _ _ (by omega) (by omega)]
  omega
theorem be4_eq {a b : Nat} (ha : a ≤ 4294967295) (hb : b ≤ 4294967295) : (be4 a == be4 b) = decide (a = b) := by
  rw [Bool.eq_iff_iff, beq_iff_eq, decide_eq_true_eq]
  constructor
  · intro h
    have h1 := be4_lt ha hb
    have h2 := be4_lt hb ha
    rw [h] at h1 h2
    have h3 := be4_lt hb hb
    rw [h3] at h1 h2
    simp at h1 h2
    omega
  · rintro rfl; rfl
theorem clampN_le (n : Int) : clampN n ≤ 4294967295 := by
  unfold clampN
  split
  · omega
  · split <;> omega
theorem p13 {args : List SV} {st st' : List Ob} {r : SV} (h : C13 args st r st') : O16 13 args st r st' := .inl (o13 h)
set_option maxHeartbeats 1000000 in
theorem f8 (n m : Int) : swpF O16 sf8 [.int .i64 n, .int .i64 m] [] (fun r _ => r = .bool true) := by
  have c1 : ∀ n m : Int, O16 13 [.nilS, .int .i64 n] [] (.sl (bsv (be4 (clampN n))) 4 (.excl 1)) [] := fun n m => p13 ⟨rfl, .nilS, [], n, .inl ⟨rfl, rfl⟩, by simp, rfl, rfl⟩
  have hc := clamp_eq n
  have hd := clamp_eq m
  simp (maxSteps := 2000000) (disch := first | omega | (simp only [List.length_append, List.length_cons, List.length_nil, List.length_map] <;> omega)) only [sf8, flg_bool, swp_seq, swp_reg, seqK_n, evK_some, appK_eq, srun_nil, srun_cons, stepK_call, swpF_eq, sk_give, raw_lit, put_some, wb_nil, ev_give, ro_bool, pubs, pubsFrom, List.map_cons, List.map_nil, List.set_cons_zero, List.set_cons_succ, List.length_cons, List.length_nil, List.replicate_succ, List.replicate_zero, List.cons_append, List.nil_append, Nat.reduceAdd, Nat.reduceSub, Bool.false_eq_true, ↓reduceIte, Nat.zero_add]
  refine callK_intro o11 ?_
  simp (maxSteps := 2000000) (disch := first | omega | (simp only [List.length_append, List.length_cons, List.length_nil, List.length_map] <;> omega)) only [flg_bool, flg_int, exc_int, exc_nilS, swp_seq, swp_reg, seqK_n, evK_some, appK_eq, appC_eq, srun_nil, srun_cons, stepK_call, sk_mv, sk_give, sk_min, sk_max, get_mk, raw_slot, raw_lit, put_some, wb_nil, ev_mv, ev_give, ev_min, ev_max, ro_int, ro_bool, got_int, got_nilS, pubs, pubsFrom, List.map_cons, List.map_nil, List.getD_cons_zero, List.getD_cons_succ, List.set_cons_zero, List.set_cons_succ, Bool.false_eq_true, ↓reduceIte, gt_iff_lt]
  rw [hc, hd]
  have ha := clampN_le n
  have hb := clampN_le m
  have h1 := c1 n 0
  have h2 := c1 m 0
  have l1 := be4_lt ha hb
  have l2 := be4_eq ha hb
  have e4 : ∀ k, (be4 k).length = 4 := fun _ => rfl
  generalize clampN n = a at *
  generalize clampN m = b at *
  clear hc hd c1
  have hx := e4 a
  have hy := e4 b
  clear e4
  have d1 : decide ((a : Int) < (b : Int)) = decide (a < b) := by simp
  have d2 : ((a : Int) == (b : Int)) = decide (a = b) := by rw [Bool.eq_iff_iff]; simp; omega
  generalize be4 a = x at *
  generalize be4 b = y at *
  generalize decide (a < b) = p at *
  generalize decide (a = b) = q at *
  have hx4 : x.length = 4 := hx
  refine callK_intro h1 ?_
  simp (maxSteps := 2000000) (disch := first | omega | (simp only [List.length_append, List.length_cons, List.length_nil, List.length_map] <;> omega)) only [b2s_bsv, hx4, flg_str, exc_int, exc_nilS, swp_seq, swp_reg, seqK_n, evK_some, appK_eq, appC_eq, srun_nil, srun_cons, stepK_call, sk_mv, sk_give, sk_b2s, get_mk, raw_slot, raw_lit, put_some, wb_nil, ev_mv, ev_give, ro_int, ro_str, got_int, got_nilS, pubs, pubsFrom, List.map_cons, List.map_nil, List.getD_cons_zero, List.getD_cons_succ, List.set_cons_zero, List.set_cons_succ, Bool.false_eq_true, ↓reduceIte]
  refine callK_intro h2 ?_
  simp (maxSteps := 2000000) (disch := first | omega | (simp only [List.length_append, List.length_cons, List.length_nil, List.length_map] <;> omega)) only [b2s_bsv, hx4, hy, l1, l2, d1, d2, grd_t, ev_pick, flg_bool, flg_str, exc_int, exc_str, swp_seq, swp_reg, swp_ret, seqK_n, evK_some, appK_eq, appC_eq, grd_t, srun_nil, srun_cons, stepK_grd, fin_ret, sk_mv, sk_take, sk_give, sk_pick, sk_bin, sk_eqB, sk_b2s, sk_lenS, get_mk, raw_slot, raw_lit, put_some, wb_nil, ev_mv, ev_take, ev_give, ev_pick, ev_eqB, ev_lenS, bin_eql, bin_lss, bin_eqlS, bin_lssS, ro_bool, ro_str, got_int, got_str, List.map_cons, List.map_nil, List.getD_cons_zero, List.getD_cons_succ, List.set_cons_zero, List.set_cons_succ, List.length_nil, and_true, Bool.false_eq_true, ↓reduceIte, beq_self_eq_true, Int.cast_ofNat_Int]
  exact ⟨_, .same⟩
end Go.Sh.F
