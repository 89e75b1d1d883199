/-
  What the functions of the package wire do, in the shadow machine.
-/
import Derived.Test.YtfiigeiajhecoaaT1
import Derived.Test.YtfiigeiajhecoaaShZ
set_option linter.unusedSimpArgs false
set_option linter.unusedVariables false
namespace Go.Sh.F

def bsv (l : List UInt8) : List SV := l.map fun b => .int .u8 b.toNat

theorem f33 (O : Orc) (xs : List SV) (n : Nat) (f : Fl) (hf : f = .ro ∨ f = .full) (st : List Ob) (h : xs.length = n) (hn : n ≤ 1099511627776) : swpF O sf44 [.sl xs n f] st (fun r st' => r = .sl xs n (.excl 1) ∧ st' = st) := by
  subst h
  rcases hf with rfl | rfl
  · simp only [sf44, swp_seq, swp_reg, swp_skip, swp_cond, seqK_n, condK_f, evK_some, appK_eq, srun_nil, srun_cons, swpF_eq, sk_mv, sk_give, sk_eqN, sk_bsl, sk_app, get_mk, raw_slot, raw_lit, put_some, wb_nil, ev_mv, ev_give, ev_eqNs2, ev_bsl, ro_nilS, ro_ro, flg, pubs, pubsFrom, List.map_cons, List.map_nil, List.getD_cons_zero, List.getD_cons_succ, List.set_cons_zero, List.set_cons_succ, List.length_cons, List.length_nil, List.replicate_succ, List.replicate_zero, List.cons_append, List.nil_append, Nat.reduceSub, and_true, Bool.false_eq_true, Option.map_some, ↓reduceIte, List.all_nil, List.zip_nil_right, rep, fillV, List.flatten_nil, Nat.mul_one, Nat.zero_add]
    rw [app_excl (by simp) (by simp) (by omega) (by omega)]
    simp only [swp_ret, seqK_n, evK_some, appK_eq, srun_nil, srun_cons, fin_ret, sk_give, get_mk, raw_slot, put_some, wb_nil, wb_cons, ev_give, ro_excl, flg, List.map_cons, List.map_nil, List.getD_cons_zero, List.getD_cons_succ, List.set_cons_zero, List.set_cons_succ, List.getElem?_cons_zero, List.nil_append, true_and, ↓reduceIte, Nat.zero_add]
    exact ⟨_, .same, rfl⟩
  · simp only [sf44, swp_seq, swp_reg, swp_skip, swp_cond, seqK_n, condK_f, evK_some, appK_eq, srun_nil, srun_cons, swpF_eq, sk_mv, sk_give, sk_eqN, sk_bsl, sk_app, get_mk, raw_slot, raw_lit, put_some, wb_nil, ev_mv, ev_give, ev_eqNs2, ev_bsl, ro_nilS, ro_full, flg, pubs, pubsFrom, List.map_cons, List.map_nil, List.getD_cons_zero, List.getD_cons_succ, List.set_cons_zero, List.set_cons_succ, List.length_cons, List.length_nil, List.replicate_succ, List.replicate_zero, List.cons_append, List.nil_append, Nat.reduceSub, and_true, Bool.false_eq_true, Option.map_some, ↓reduceIte, List.all_nil, List.zip_nil_right, rep, fillV, List.flatten_nil, Nat.mul_one, Nat.zero_add]
    rw [app_excl (by simp) (by simp) (by omega) (by omega)]
    simp only [swp_ret, seqK_n, evK_some, appK_eq, srun_nil, srun_cons, fin_ret, sk_give, get_mk, raw_slot, put_some, wb_nil, wb_cons, ev_give, ro_excl, flg, List.map_cons, List.map_nil, List.getD_cons_zero, List.getD_cons_succ, List.set_cons_zero, List.set_cons_succ, List.getElem?_cons_zero, List.nil_append, true_and, ↓reduceIte, Nat.zero_add]
    exact ⟨_, .same, rfl⟩
theorem f33n (O : Orc) (st : List Ob) : swpF O sf44 [.nilS] st (fun r st' => r = .nilS ∧ st' = st) := by
  simp only [sf44, swp_seq, swp_reg, swp_ret, swp_cond, seqK_n, seqK_r, condK_t, evK_some, appK_eq, srun_nil, srun_cons, fin_ret, swpF_eq, sk_mv, sk_give, sk_eqN, get_mk, raw_slot, raw_lit, put_some, wb_nil, ev_mv, ev_give, ev_eqNs1, ro_nilS, flg, List.map_cons, List.map_nil, List.getD_cons_zero, List.getD_cons_succ, List.set_cons_zero, List.set_cons_succ, List.length_cons, List.length_nil, List.replicate_succ, List.replicate_zero, List.cons_append, List.nil_append, Nat.reduceSub, true_and, Bool.false_eq_true, ↓reduceIte, Nat.zero_add]
  exact ⟨_, .same, rfl⟩

/-- slices.Clone of bytes. -/
def C33 : List SV → List Ob → SV → List Ob → Prop := fun args st r st' => st' = st ∧
  ((args = [.nilS] ∧ r = .nilS) ∨ ∃ xs n f, (f = Fl.ro ∨ f = .full) ∧ xs.length = n ∧ n ≤ 1099511627776 ∧ args = [.sl xs n f] ∧ r = .sl xs n (.excl 1))
def O1 : Orc := Orc.none.add 44 C33
theorem s1 : Sound Proofs.Try.prog O1 := Sound.none.add c44 (by kernel_rfl) (by
  rintro args st r st' ⟨rfl, ⟨rfl, rfl⟩ | ⟨xs, n, f, hf, h1, h2, rfl, rfl⟩⟩
  · exact ⟨by decide, f33n _ _⟩
  · exact ⟨by simp [sf44], f33 _ _ _ f hf _ h1 h2⟩)


/-! Numbers. -/
def clampN (n : Int) : Nat := if n < 0 then 0 else if 4294967295 < n then 4294967295 else n.toNat
def be4 (c : Nat) : List UInt8 := [UInt8.ofNat (c / 16777216), UInt8.ofNat (c / 65536), UInt8.ofNat (c / 256), UInt8.ofNat c]
theorem be4_bsv (c : Nat) : bsv (be4 c) = [.int .u8 ((c : Int).fdiv 16777216 % 256), .int .u8 ((c : Int).fdiv 65536 % 256), .int .u8 ((c : Int).fdiv 256 % 256), .int .u8 ((c : Int).fdiv 1 % 256)] := by
  have h : ∀ (k : Nat), (((UInt8.ofNat k).toNat : Nat) : Int) = (k : Int) % 256 := by
    intro k; simp
  simp only [bsv, be4, List.map_cons, List.map_nil, h]
  rw [Int.fdiv_eq_ediv_of_nonneg _ (by omega), Int.fdiv_eq_ediv_of_nonneg _ (by omega), Int.fdiv_eq_ediv_of_nonneg _ (by omega), Int.fdiv_eq_ediv_of_nonneg _ (by omega)]
  simp
theorem clamp_eq (n : Int) : (if 0 < (if 4294967295 < n then 4294967295 else n) then if 4294967295 < n then 4294967295 else n else 0) = ((clampN n : Nat) : Int) := by
  unfold clampN
  split <;> split <;> (try split) <;> omega

theorem f13n (n : Int) (st : List Ob) : swpF O1 sf14 [.nilS, .int .i64 n] st (fun r st' => r = .sl (bsv (be4 (clampN n))) 4 (.excl 1) ∧ st' = st) := by
  simp only [sf14, swp_seq, swp_reg, seqK_n, evK_some, appK_eq, srun_nil, srun_cons, stepK_call, swpF_eq, sk_mv, sk_give, sk_min, sk_max, get_mk, raw_slot, raw_lit, put_some, wb_nil, ev_mv, ev_give, ev_min, ev_max, ro_int, ro_nilS, got_nilS, flg, exc, pubs, pubsFrom, List.map_cons, List.map_nil, List.getD_cons_zero, List.getD_cons_succ, List.set_cons_zero, List.set_cons_succ, List.length_cons, List.length_nil, List.replicate_succ, List.replicate_zero, List.cons_append, List.nil_append, Nat.reduceAdd, Nat.reduceSub, Bool.false_eq_true, ↓reduceIte, Nat.zero_add, gt_iff_lt]
  refine callK_intro (r := .nilS) (st' := st) (.inr ⟨rfl, rfl, .inl ⟨rfl, rfl⟩⟩) ?_
  simp only [swp_seq, swp_reg, swp_block, seqK_n, evK_some, appK_eq, appC_eq, srun_nil, srun_cons, sk_take, sk_give, get_mk, raw_slot, raw_lit, put_some, wb_nil, ev_take, ev_give, ro_nilS, got_int, flg, exc, List.map_cons, List.map_nil, List.getD_cons_zero, List.getD_cons_succ, List.set_cons_zero, List.set_cons_succ, Bool.false_eq_true, ↓reduceIte]
  rw [clamp_eq]
  refine swp_unroll 5 ?_
  simp only [swp_seq, swp_reg, swp_skip, swp_ret, swp_exit, swp_block, swp_cond, seqK_n, seqK_e, blkK_n, blkK_e, condK_t, condK_f, evK_some, appK_eq, srun_nil, srun_cons, fin_ret, sk_mv, sk_give, sk_bin, sk_cvI, sk_bsl, sk_app, get_mk, raw_slot, raw_lit, put_some, wb_nil, wb_cons, ev_mv, ev_give, ev_cvI, bin_sub, bin_mul, bin_geq, unr_succ, unrK_n, unrK_e, ev_bsl, ro_int, ro_nilS, ro_excl, got_int, flg, exc, pubs, pubsFrom, List.map_cons, List.map_nil, List.getD_cons_zero, List.getD_cons_succ, List.set_cons_zero, List.set_cons_succ, List.getElem?_cons_zero, List.length_cons, List.length_nil, List.replicate_succ, List.replicate_zero, List.cons_append, List.nil_append, Nat.reduceAdd, Nat.reduceLeDiff, Nat.reduceLT, and_true, Bool.false_eq_true, Option.map_some, ↓reduceIte, List.all_cons, List.all_nil, Bool.and_self, List.zip_cons_cons, List.zip_nil_right, rep, fillV, wrCells, cellsV, isCell, List.flatten_cons, List.flatten_nil, List.append_nil, decide_true, decide_false, Nat.mul_one, Nat.zero_add, not_false_eq_true, ge_iff_le, Int.reduceLE, Int.reduceMul, Int.reduceSub, Int.reduceToNat, Int.reduceNeg, Int.reducePow, IntKind.bits, wrap_i64, wrap_u8, bin_shr, Nat.min_def, ne_eq, Nat.one_ne_zero, Nat.le_refl, app_excl, app_nil, ev_cvI]
  exact ⟨_, .same, by rw [be4_bsv], rfl⟩
theorem f13 (xs : List SV) (len : Nat) (f : Fl) (hf : f = .ro ∨ f = .full) (h : xs.length = len) (hn : len ≤ 1099511627776) (n : Int) (st : List Ob) : swpF O1 sf14 [.sl xs len f, .int .i64 n] st (fun r st' => r = .sl (xs ++ bsv (be4 (clampN n))) (len + 4) (.excl 1) ∧ st' = st) := by
  rcases hf with rfl | rfl
  · simp only [sf14, swp_seq, swp_reg, seqK_n, evK_some, appK_eq, srun_nil, srun_cons, stepK_call, swpF_eq, sk_mv, sk_give, sk_min, sk_max, get_mk, raw_slot, raw_lit, put_some, wb_nil, ev_mv, ev_give, ev_min, ev_max, ro_int, ro_nilS, ro_ro, got_roo, flg, exc, pubs, pubsFrom, List.map_cons, List.map_nil, List.getD_cons_zero, List.getD_cons_succ, List.set_cons_zero, List.set_cons_succ, List.length_cons, List.length_nil, List.replicate_succ, List.replicate_zero, List.cons_append, List.nil_append, Nat.reduceAdd, Nat.reduceSub, Bool.false_eq_true, ↓reduceIte, Nat.zero_add, gt_iff_lt]
    refine callK_intro (r := .sl xs len (.excl 1)) (st' := st) (.inr ⟨rfl, rfl, .inr ⟨xs, len, .ro, .inl rfl, h, hn, rfl, rfl⟩⟩) ?_
    simp only [swp_seq, swp_reg, swp_block, seqK_n, evK_some, appK_eq, appC_eq, srun_nil, srun_cons, sk_take, sk_give, get_mk, raw_slot, raw_lit, put_some, wb_nil, wb_cons, ev_take, ev_give, ro_excl, got_int, flg, exc, List.map_cons, List.map_nil, List.getD_cons_zero, List.getD_cons_succ, List.set_cons_zero, List.set_cons_succ, List.getElem?_cons_zero, Bool.false_eq_true, ↓reduceIte]
    rw [clamp_eq]
    refine swp_unroll 5 ?_
    simp (maxSteps := 2000000) (disch := first | omega | (simp only [List.length_append, List.length_cons, List.length_nil, List.length_map] <;> omega)) only [swp_seq, swp_reg, swp_skip, swp_ret, swp_exit, swp_block, swp_cond, seqK_n, seqK_e, blkK_n, blkK_e, condK_t, condK_f, evK_some, appK_eq, srun_nil, srun_cons, fin_ret, sk_mv, sk_give, sk_bin, sk_cvI, sk_bsl, sk_app, get_mk, raw_slot, raw_lit, put_some, wb_nil, wb_cons, ev_mv, ev_give, ev_cvI, bin_sub, bin_mul, bin_geq, unr_succ, unrK_n, unrK_e, ev_bsl, ro_int, ro_excl, got_int, flg, exc, pubs, pubsFrom, List.map_cons, List.map_nil, List.getD_cons_zero, List.getD_cons_succ, List.set_cons_zero, List.set_cons_succ, List.getElem?_cons_zero, List.length_cons, List.length_nil, List.replicate_succ, List.replicate_zero, Nat.reduceLeDiff, Nat.reduceLT, and_true, Bool.false_eq_true, Option.map_some, ↓reduceIte, List.all_cons, List.all_nil, Bool.and_self, List.zip_cons_cons, List.zip_nil_right, rep, fillV, wrCells, cellsV, isCell, List.flatten_cons, List.flatten_nil, List.append_nil, decide_true, decide_false, Nat.mul_one, Nat.zero_add, ge_iff_le, Int.reduceLE, Int.reduceMul, Int.reduceSub, Int.reduceToNat, Int.reduceNeg, Int.reducePow, IntKind.bits, wrap_i64, wrap_u8, bin_shr, Nat.min_def, Nat.le_refl, app_excl, ev_cvI]
    exact ⟨_, .same, by rw [be4_bsv]; simp, rfl⟩
  · simp only [sf14, swp_seq, swp_reg, seqK_n, evK_some, appK_eq, srun_nil, srun_cons, stepK_call, swpF_eq, sk_mv, sk_give, sk_min, sk_max, get_mk, raw_slot, raw_lit, put_some, wb_nil, ev_mv, ev_give, ev_min, ev_max, ro_int, ro_nilS, ro_full, got_full, flg, exc, pubs, pubsFrom, List.map_cons, List.map_nil, List.getD_cons_zero, List.getD_cons_succ, List.set_cons_zero, List.set_cons_succ, List.length_cons, List.length_nil, List.replicate_succ, List.replicate_zero, List.cons_append, List.nil_append, Nat.reduceAdd, Nat.reduceSub, Bool.false_eq_true, ↓reduceIte, Nat.zero_add, gt_iff_lt]
    refine callK_intro (r := .sl xs len (.excl 1)) (st' := st) (.inr ⟨rfl, rfl, .inr ⟨xs, len, .full, .inr rfl, h, hn, rfl, rfl⟩⟩) ?_
    simp only [swp_seq, swp_reg, swp_block, seqK_n, evK_some, appK_eq, appC_eq, srun_nil, srun_cons, sk_take, sk_give, get_mk, raw_slot, raw_lit, put_some, wb_nil, wb_cons, ev_take, ev_give, ro_excl, got_int, flg, exc, List.map_cons, List.map_nil, List.getD_cons_zero, List.getD_cons_succ, List.set_cons_zero, List.set_cons_succ, List.getElem?_cons_zero, Bool.false_eq_true, ↓reduceIte]
    rw [clamp_eq]
    refine swp_unroll 5 ?_
    simp (maxSteps := 2000000) (disch := first | omega | (simp only [List.length_append, List.length_cons, List.length_nil, List.length_map] <;> omega)) only [swp_seq, swp_reg, swp_skip, swp_ret, swp_exit, swp_block, swp_cond, seqK_n, seqK_e, blkK_n, blkK_e, condK_t, condK_f, evK_some, appK_eq, srun_nil, srun_cons, fin_ret, sk_mv, sk_give, sk_bin, sk_cvI, sk_bsl, sk_app, get_mk, raw_slot, raw_lit, put_some, wb_nil, wb_cons, ev_mv, ev_give, ev_cvI, bin_sub, bin_mul, bin_geq, unr_succ, unrK_n, unrK_e, ev_bsl, ro_int, ro_excl, got_int, flg, exc, pubs, pubsFrom, List.map_cons, List.map_nil, List.getD_cons_zero, List.getD_cons_succ, List.set_cons_zero, List.set_cons_succ, List.getElem?_cons_zero, List.length_cons, List.length_nil, List.replicate_succ, List.replicate_zero, Nat.reduceLeDiff, Nat.reduceLT, and_true, Bool.false_eq_true, Option.map_some, ↓reduceIte, List.all_cons, List.all_nil, Bool.and_self, List.zip_cons_cons, List.zip_nil_right, rep, fillV, wrCells, cellsV, isCell, List.flatten_cons, List.flatten_nil, List.append_nil, decide_true, decide_false, Nat.mul_one, Nat.zero_add, ge_iff_le, Int.reduceLE, Int.reduceMul, Int.reduceSub, Int.reduceToNat, Int.reduceNeg, Int.reducePow, IntKind.bits, wrap_i64, wrap_u8, bin_shr, Nat.min_def, Nat.le_refl, app_excl, ev_cvI]
    exact ⟨_, .same, by rw [be4_bsv]; simp, rfl⟩

/-- A slice of bytes as an argument. -/
def isBs (v : SV) (l : List UInt8) : Prop := (v = .nilS ∧ l = []) ∨ ∃ f, (f = Fl.ro ∨ f = .full) ∧ v = .sl (bsv l) l.length f
theorem bsv_len (l : List UInt8) : (bsv l).length = l.length := by simp [bsv]
theorem bsv_app (l m : List UInt8) : bsv l ++ bsv m = bsv (l ++ m) := by simp [bsv]
/-- wire.Number. -/
def C13 : List SV → List Ob → SV → List Ob → Prop := fun args st r st' => st' = st ∧ ∃ v l n, isBs v l ∧ l.length ≤ 1099511627776 ∧ args = [v, .int .i64 n] ∧ r = .sl (bsv (l ++ be4 (clampN n))) (l.length + 4) (.excl 1)
def O2 : Orc := O1.add 14 C13
theorem s2 : Sound Proofs.Try.prog O2 := s1.add c14 (by kernel_rfl) (by
  rintro args st r st' ⟨rfl, v, l, n, ⟨rfl, rfl⟩ | ⟨f, hf, rfl⟩, hl, rfl, rfl⟩
  · exact ⟨by simp [sf14], f13n _ _⟩
  · refine ⟨by simp [sf14], ?_⟩
    have := f13 (bsv l) l.length f hf (bsv_len l) hl n st'
    rwa [bsv_app] at this)

/-! Strings. -/
def strB (s : List UInt8) : List UInt8 := be4 (min s.length 16384) ++ s.take 16384
theorem clampN_nat (n : Nat) (h : n ≤ 4294967295) : clampN n = n := by
  unfold clampN; split
  · omega
  · split <;> omega
theorem min_eq (n m : Nat) : (if (m : Int) < n then (m : Int) else n) = ((min n m : Nat) : Int) := by
  split <;> omega

theorem f14 (v : SV) (l : List UInt8) (hv : isBs v l) (hl : l.length ≤ 549755813888) (s : List UInt8) (st : List Ob) : swpF O2 sf15 [v, .str s] st (fun r st' => r = .sl (bsv (l ++ strB s)) (l.length + (strB s).length) (.excl 1) ∧ st' = st) := by
  have key : ∀ v', isBs v' l → O2 14 [v', .int .i64 ((min s.length 16384 : Nat) : Int)] st (.sl (bsv (l ++ be4 (min s.length 16384))) (l.length + 4) (.excl 1)) st := by
    intro v' hv'
    refine .inr ⟨rfl, rfl, v', l, _, hv', by omega, rfl, ?_⟩
    rw [clampN_nat _ (by omega)]
  have hk : (if (16384 : Int) < (s.length : Int) then (16384 : Int) else (s.length : Int)).toNat = min s.length 16384 := by split <;> omega
  have e1 : strB s = be4 (min s.length 16384) ++ s.take (min s.length 16384) := by
    unfold strB
    congr 1
    by_cases h : s.length ≤ 16384
    · rw [Nat.min_eq_left h, List.take_of_length_le h, List.take_of_length_le (Nat.le_refl _)]
    · rw [Nat.min_eq_right (by omega)]
  have e2 : (s.take (min s.length 16384)).length = min s.length 16384 := by rw [List.length_take]; omega
  have e3 : (bsv (l ++ be4 (min s.length 16384))).length = l.length + 4 := by simp [bsv, be4]
  have fin : ∀ {Q : Prop}, (SV.sl (bsv (l ++ be4 (min s.length 16384)) ++ (s.take (min s.length 16384)).map fun b => .int .u8 b.toNat) (l.length + 4 + (s.take (min s.length 16384)).length) (.excl 1) = .sl (bsv (l ++ strB s)) (l.length + (strB s).length) (.excl 1) → Q) → Q := by
    intro Q h
    refine h ?_
    rw [e1]
    congr 1
    · simp [bsv]
    · simp [be4]; omega
  generalize min s.length 16384 = m at *
  rcases hv with ⟨rfl, hnil⟩ | ⟨f, rfl | rfl, rfl⟩
  all_goals
    simp (maxSteps := 2000000) (disch := first | omega | (simp only [List.length_append, List.length_cons, List.length_nil, List.length_map] <;> omega)) only [sf15, swp_seq, swp_reg, seqK_n, evK_some, appK_eq, srun_nil, srun_cons, stepK_call, swpF_eq, sk_mv, sk_give, sk_lenS, sk_min, sk_slcS, get_mk, raw_slot, raw_lit, put_some, wb_nil, ev_mv, ev_give, ev_lenS, ev_min, slcS_hi, ro_str, ro_nilS, ro_ro, ro_full, got_roo, got_full, got_int, got_nilS, flg, exc, pubs, pubsFrom, List.map_cons, List.map_nil, List.getD_cons_zero, List.getD_cons_succ, List.set_cons_zero, List.set_cons_succ, List.length_cons, List.length_nil, List.replicate_succ, List.replicate_zero, List.cons_append, List.nil_append, Nat.reduceAdd, Nat.reduceSub, Bool.false_eq_true, ↓reduceIte, Nat.zero_add]
    rw [hk, e2]
  · refine callK_intro (key _ (.inl ⟨rfl, hnil⟩)) ?_
    simp (maxSteps := 2000000) (disch := first | omega | (simp only [List.length_append, List.length_cons, List.length_nil, List.length_map] <;> omega)) only [swp_ret, seqK_n, evK_some, appK_eq, appC_eq, srun_nil, srun_cons, fin_ret, sk_mv, sk_give, sk_app, get_mk, raw_slot, put_some, wb_nil, wb_cons, ev_mv, ev_give, app_excl_str, ro_str, ro_excl, flg, List.map_cons, List.map_nil, List.getD_cons_zero, List.getD_cons_succ, List.set_cons_zero, List.set_cons_succ, List.getElem?_cons_zero, ↓reduceIte]
    exact fin fun h => ⟨_, .same, h, rfl⟩
  · refine callK_intro (key _ (.inr ⟨_, .inl rfl, rfl⟩)) ?_
    simp (maxSteps := 2000000) (disch := first | omega | (simp only [List.length_append, List.length_cons, List.length_nil, List.length_map] <;> omega)) only [swp_ret, seqK_n, evK_some, appK_eq, appC_eq, srun_nil, srun_cons, fin_ret, sk_mv, sk_give, sk_app, get_mk, raw_slot, put_some, wb_nil, wb_cons, ev_mv, ev_give, app_excl_str, ro_str, ro_excl, flg, List.map_cons, List.map_nil, List.getD_cons_zero, List.getD_cons_succ, List.set_cons_zero, List.set_cons_succ, List.getElem?_cons_zero, ↓reduceIte]
    exact fin fun h => ⟨_, .same, h, rfl⟩
  · refine callK_intro (key _ (.inr ⟨_, .inr rfl, rfl⟩)) ?_
    simp (maxSteps := 2000000) (disch := first | omega | (simp only [List.length_append, List.length_cons, List.length_nil, List.length_map] <;> omega)) only [swp_ret, seqK_n, evK_some, appK_eq, appC_eq, srun_nil, srun_cons, fin_ret, sk_mv, sk_give, sk_app, get_mk, raw_slot, put_some, wb_nil, wb_cons, ev_mv, ev_give, app_excl_str, ro_str, ro_excl, flg, List.map_cons, List.map_nil, List.getD_cons_zero, List.getD_cons_succ, List.set_cons_zero, List.set_cons_succ, List.getElem?_cons_zero, ↓reduceIte]
    exact fin fun h => ⟨_, .same, h, rfl⟩

/-- wire.String. -/
def C14 : List SV → List Ob → SV → List Ob → Prop := fun args st r st' => st' = st ∧ ∃ v l s, isBs v l ∧ l.length ≤ 549755813888 ∧ args = [v, .str s] ∧ r = .sl (bsv (l ++ strB s)) (l.length + (strB s).length) (.excl 1)
def O3 : Orc := O2.add 15 C14
theorem s3 : Sound Proofs.Try.prog O3 := s2.add c15 (by kernel_rfl) (by
  rintro args st r st' ⟨rfl, v, l, n, hv, hl, rfl, rfl⟩
  exact ⟨by simp [sf15], f14 v l hv hl n _⟩)

/-! Readers. -/
theorem f34 (O : Orc) (v : SV) (at_ err e at' : Int) (id : Nat) (st : List Ob) (h : st[id]? = some (.cells [v, .int .i64 at_, .int .i64 err])) : swpF O sf45 [.ptr id 0, .int .i64 e, .int .i64 at'] st (fun r st' => r = .tup [] ∧ st' = if err = 0 then setOb st id [v, .int .i64 at', .int .i64 e] else st) := by
  have hlt := ob_lt h
  by_cases h0 : err = 0
  · subst h0
    simp only [sf45, h, hlt, swp_seq, swp_reg, swp_cond, seqK_n, condK_t, evK_some, appK_eq, srun_nil, srun_cons, fin_n, fin_nil, swpF_eq, sk_mv, sk_bin, sk_nilc, sk_fld, sk_load, sk_store, get_mk, raw_slot, raw_lit, put_some, put_none, wb_nil, ev_mv, ev_nilc, ev_fld, bin_eql, ev_ldP, ldP_some, stP_some, setOb_setOb, ro_int, ro_ptr, List.map_cons, List.map_nil, List.getD_cons_zero, List.getD_cons_succ, List.set_cons_zero, List.set_cons_succ, List.getElem?_cons_zero, List.getElem?_cons_succ, List.length_cons, List.length_nil, List.replicate_succ, List.replicate_zero, List.cons_append, List.nil_append, Nat.reduceAdd, Nat.reduceSub, Nat.reduceLT, true_and, Option.map_some, ↓reduceIte, Nat.zero_add, beq_self_eq_true, st_int, setOb_same]
    exact ⟨_, .same, rfl⟩
  · have hb : (err == 0) = false := by simpa using h0
    simp only [sf45, h, hb, if_neg h0, swp_seq, swp_reg, swp_skip, swp_cond, seqK_n, condK_f, evK_some, appK_eq, srun_nil, srun_cons, fin_n, fin_nil, swpF_eq, sk_mv, sk_bin, sk_nilc, sk_fld, sk_load, get_mk, raw_slot, raw_lit, put_some, wb_nil, ev_mv, ev_nilc, ev_fld, bin_eql, ev_ldP, ldP_some, ro_int, ro_ptr, List.map_cons, List.map_nil, List.getD_cons_zero, List.getD_cons_succ, List.set_cons_zero, List.set_cons_succ, List.getElem?_cons_zero, List.getElem?_cons_succ, List.length_cons, List.length_nil, List.replicate_succ, List.replicate_zero, List.cons_append, List.nil_append, Nat.reduceAdd, Nat.reduceSub, true_and, Option.map_some, Nat.zero_add]
    exact ⟨_, .same, rfl⟩
/-- Reader.fail. -/
def C34 : List SV → List Ob → SV → List Ob → Prop := fun args st r st' => ∃ v at_ err e at' id, st[id]? = some (.cells [v, .int .i64 at_, .int .i64 err]) ∧ args = [.ptr id 0, .int .i64 e, .int .i64 at'] ∧ r = .tup [] ∧ st' = if err = 0 then setOb st id [v, .int .i64 at', .int .i64 e] else st
def O4 : Orc := O3.add 45 C34
theorem s4 : Sound Proofs.Try.prog O4 := s3.add c45 (by kernel_rfl) (by
  rintro args st r st' ⟨v, at_, err, e, at', id, h, rfl, rfl, rfl⟩
  exact ⟨by simp [sf45], f34 _ v at_ err e at' id st h⟩)
end Go.Sh.F
