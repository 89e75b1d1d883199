/-
  What the functions of the package wire do, in the shadow machine.
  What the readers of the package wire do, in the shadow machine.
  Reader.String, in the shadow machine.
  Reader.Err, At, End, and Read, in the shadow machine.
  Read, Fits, and rows of strings, in the shadow machine.
  The document's own writers, in the shadow machine.
  The document's own readers, in the shadow machine.
  The document's own readers, in the shadow machine: calls.
-/
import Derived.Test.YtlknoahpliaigaaDoorT1
import Derived.Test.YtlknoahpliaigaaDoorShRd
import Derived.Test.YtlknoahpliaigaaDoorShS
import Derived.Test.YtlknoahpliaigaaDoorShTl
set_option linter.unusedSimpArgs false
set_option linter.unusedVariables false
namespace Go.Sh.W
open Go.Sh.F
open Go.Proofs
def bsv (l : List UInt8) : List SV := l.map fun b => .int .u8 b.toNat
theorem f33 (O : Orc) (xs : List SV) (n : Nat) (f : Fl) (hf : f = .ro ∨ f = .full) (st : List Ob) (h : xs.length = n) (hn : n ≤ 1099511627776) : swpF O sf61 [.sl xs n f] st (fun r st' => r = .sl xs n (.excl 1) ∧ st' = st) := by
  subst h
  rcases hf with rfl | rfl
  · simp only [sf61, swp_seq, swp_reg, swp_skip, swp_cond, seqK_n, condK_f, evK_some, appK_eq, srun_nil, srun_cons, swpF_eq, sk_mv, sk_give, sk_eqN, sk_bsl, sk_app, get_mk, raw_slot, raw_lit, put_some, wb_nil, ev_mv, ev_give, ev_eqNs2, ev_bsl, ro_nilS, ro_ro, flg, pubs, pubsFrom, List.map_cons, List.map_nil, List.getD_cons_zero, List.getD_cons_succ, List.set_cons_zero, List.set_cons_succ, List.length_cons, List.length_nil, List.replicate_succ, List.replicate_zero, List.cons_append, List.nil_append, Nat.reduceSub, and_true, Bool.false_eq_true, Option.map_some, ↓reduceIte, List.all_nil, List.zip_nil_right, rep, fillV, List.flatten_nil, Nat.mul_one, Nat.zero_add]
    rw [app_excl (by simp) (by simp) (by omega) (by omega)]
    simp only [swp_ret, seqK_n, evK_some, appK_eq, srun_nil, srun_cons, fin_ret, sk_give, get_mk, raw_slot, put_some, wb_nil, wb_cons, ev_give, ro_excl, flg, List.map_cons, List.map_nil, List.getD_cons_zero, List.getD_cons_succ, List.set_cons_zero, List.set_cons_succ, List.getElem?_cons_zero, List.nil_append, true_and, ↓reduceIte, Nat.zero_add]
    exact ⟨_, .same, rfl⟩
  · simp only [sf61, swp_seq, swp_reg, swp_skip, swp_cond, seqK_n, condK_f, evK_some, appK_eq, srun_nil, srun_cons, swpF_eq, sk_mv, sk_give, sk_eqN, sk_bsl, sk_app, get_mk, raw_slot, raw_lit, put_some, wb_nil, ev_mv, ev_give, ev_eqNs2, ev_bsl, ro_nilS, ro_full, flg, pubs, pubsFrom, List.map_cons, List.map_nil, List.getD_cons_zero, List.getD_cons_succ, List.set_cons_zero, List.set_cons_succ, List.length_cons, List.length_nil, List.replicate_succ, List.replicate_zero, List.cons_append, List.nil_append, Nat.reduceSub, and_true, Bool.false_eq_true, Option.map_some, ↓reduceIte, List.all_nil, List.zip_nil_right, rep, fillV, List.flatten_nil, Nat.mul_one, Nat.zero_add]
    rw [app_excl (by simp) (by simp) (by omega) (by omega)]
    simp only [swp_ret, seqK_n, evK_some, appK_eq, srun_nil, srun_cons, fin_ret, sk_give, get_mk, raw_slot, put_some, wb_nil, wb_cons, ev_give, ro_excl, flg, List.map_cons, List.map_nil, List.getD_cons_zero, List.getD_cons_succ, List.set_cons_zero, List.set_cons_succ, List.getElem?_cons_zero, List.nil_append, true_and, ↓reduceIte, Nat.zero_add]
    exact ⟨_, .same, rfl⟩
theorem f33n (O : Orc) (st : List Ob) : swpF O sf61 [.nilS] st (fun r st' => r = .nilS ∧ st' = st) := by
  simp only [sf61, swp_seq, swp_reg, swp_ret, swp_cond, seqK_n, seqK_r, condK_t, evK_some, appK_eq, srun_nil, srun_cons, fin_ret, swpF_eq, sk_mv, sk_give, sk_eqN, get_mk, raw_slot, raw_lit, put_some, wb_nil, ev_mv, ev_give, ev_eqNs1, ro_nilS, flg, List.map_cons, List.map_nil, List.getD_cons_zero, List.getD_cons_succ, List.set_cons_zero, List.set_cons_succ, List.length_cons, List.length_nil, List.replicate_succ, List.replicate_zero, List.cons_append, List.nil_append, Nat.reduceSub, true_and, Bool.false_eq_true, ↓reduceIte, Nat.zero_add]
  exact ⟨_, .same, rfl⟩
def C33 : List SV → List Ob → SV → List Ob → Prop := fun args st r st' => st' = st ∧
  ((args = [.nilS] ∧ r = .nilS) ∨ ∃ xs n f, (f = Fl.ro ∨ f = .full) ∧ xs.length = n ∧ n ≤ 1099511627776 ∧ args = [.sl xs n f] ∧ r = .sl xs n (.excl 1))
def O1 : Orc := Orc.none.add 61 C33
theorem s1 : Sound Tryd.prog O1 := Sound.none.add c61 (by kernel_rfl) (by
  rintro args st r st' ⟨rfl, ⟨rfl, rfl⟩ | ⟨xs, n, f, hf, h1, h2, rfl, rfl⟩⟩
  · exact ⟨by decide, f33n _ _⟩
  · exact ⟨by simp [sf61], f33 _ _ _ f hf _ h1 h2⟩)
def clampN (n : Int) : Nat := if n < 0 then 0 else if 4294967295 < n then 4294967295 else n.toNat
def be4 (c : Nat) : List UInt8 := [UInt8.ofNat (c / 16777216), UInt8.ofNat (c / 65536), UInt8.ofNat (c / 256), UInt8.ofNat c]
theorem be4_bsv (c : Nat) : bsv (be4 c) = [.int .u8 ((c : Int).fdiv 16777216 % 256), .int .u8 ((c : Int).fdiv 65536 % 256), .int .u8 ((c : Int).fdiv 256 % 256), .int .u8 ((c : Int).fdiv 1 % 256)] := by
  have h : ∀ (k : Nat), (((UInt8.ofNat k).toNat : Nat) : Int) = (k : Int) % 256 := by
    intro k; simp
  simp only [bsv, be4, List.map_cons, List.map_nil, h]
  rw [Int.fdiv_eq_ediv_of_nonneg _ (by omega), Int.fdiv_eq_ediv_of_nonneg _ (by omega), Int.fdiv_eq_ediv_of_nonneg _ (by omega), Int.fdiv_eq_ediv_of_nonneg _ (by omega)]
  simp
theorem clamp_eq (n : Int) : (if 0 < (if 4294967295 < n then 4294967295 else n) then if 4294967295 < n then 4294967295 else n else 0) = ((clampN n : Nat) : Int) := by
  unfold clampN
  split <;> split <;> (try split) <;> omega
theorem f13n (n : Int) (st : List Ob) : swpF O1 sf59 [.nilS, .int .i64 n] st (fun r st' => r = .sl (bsv (be4 (clampN n))) 4 (.excl 1) ∧ st' = st) := by
  simp only [sf59, swp_seq, swp_reg, seqK_n, evK_some, appK_eq, srun_nil, srun_cons, stepK_call, swpF_eq, sk_mv, sk_give, sk_min, sk_max, get_mk, raw_slot, raw_lit, put_some, wb_nil, ev_mv, ev_give, ev_min, ev_max, ro_int, ro_nilS, got_nilS, flg, exc, pubs, pubsFrom, List.map_cons, List.map_nil, List.getD_cons_zero, List.getD_cons_succ, List.set_cons_zero, List.set_cons_succ, List.length_cons, List.length_nil, List.replicate_succ, List.replicate_zero, List.cons_append, List.nil_append, Nat.reduceAdd, Nat.reduceSub, Bool.false_eq_true, ↓reduceIte, Nat.zero_add, gt_iff_lt]
  refine callK_intro (r := .nilS) (st' := st) (.inr ⟨rfl, rfl, .inl ⟨rfl, rfl⟩⟩) ?_
  simp only [swp_seq, swp_reg, swp_block, seqK_n, evK_some, appK_eq, appC_eq, srun_nil, srun_cons, sk_take, sk_give, get_mk, raw_slot, raw_lit, put_some, wb_nil, ev_take, ev_give, ro_nilS, got_int, flg, exc, List.map_cons, List.map_nil, List.getD_cons_zero, List.getD_cons_succ, List.set_cons_zero, List.set_cons_succ, Bool.false_eq_true, ↓reduceIte]
  rw [clamp_eq]
  refine swp_unroll 5 ?_
  simp only [swp_seq, swp_reg, swp_skip, swp_ret, swp_exit, swp_block, swp_cond, seqK_n, seqK_e, blkK_n, blkK_e, condK_t, condK_f, evK_some, appK_eq, srun_nil, srun_cons, fin_ret, sk_mv, sk_give, sk_bin, sk_cvI, sk_bsl, sk_app, get_mk, raw_slot, raw_lit, put_some, wb_nil, wb_cons, ev_mv, ev_give, ev_cvI, bin_sub, bin_mul, bin_geq, unr_succ, unrK_n, unrK_e, ev_bsl, ro_int, ro_nilS, ro_excl, got_int, flg, exc, pubs, pubsFrom, List.map_cons, List.map_nil, List.getD_cons_zero, List.getD_cons_succ, List.set_cons_zero, List.set_cons_succ, List.getElem?_cons_zero, List.length_cons, List.length_nil, List.replicate_succ, List.replicate_zero, List.cons_append, List.nil_append, Nat.reduceAdd, Nat.reduceLeDiff, Nat.reduceLT, and_true, Bool.false_eq_true, Option.map_some, ↓reduceIte, List.all_cons, List.all_nil, Bool.and_self, List.zip_cons_cons, List.zip_nil_right, rep, fillV, wrCells, cellsV, isCell, List.flatten_cons, List.flatten_nil, List.append_nil, decide_true, decide_false, Nat.mul_one, Nat.zero_add, not_false_eq_true, ge_iff_le, Int.reduceLE, Int.reduceMul, Int.reduceSub, Int.reduceToNat, Int.reduceNeg, Int.reducePow, IntKind.bits, wrap_i64, wrap_u8, bin_shr, Nat.min_def, ne_eq, Nat.one_ne_zero, Nat.le_refl, app_excl, app_nil]
  exact ⟨_, .same, by rw [be4_bsv], rfl⟩
theorem f13 (xs : List SV) (len : Nat) (f : Fl) (hf : f = .ro ∨ f = .full) (h : xs.length = len) (hn : len ≤ 1099511627776) (n : Int) (st : List Ob) : swpF O1 sf59 [.sl xs len f, .int .i64 n] st (fun r st' => r = .sl (xs ++ bsv (be4 (clampN n))) (len + 4) (.excl 1) ∧ st' = st) := by
  rcases hf with rfl | rfl
  · simp only [sf59, swp_seq, swp_reg, seqK_n, evK_some, appK_eq, srun_nil, srun_cons, stepK_call, swpF_eq, sk_mv, sk_give, sk_min, sk_max, get_mk, raw_slot, raw_lit, put_some, wb_nil, ev_mv, ev_give, ev_min, ev_max, ro_int, ro_nilS, ro_ro, got_roo, flg, exc, pubs, pubsFrom, List.map_cons, List.map_nil, List.getD_cons_zero, List.getD_cons_succ, List.set_cons_zero, List.set_cons_succ, List.length_cons, List.length_nil, List.replicate_succ, List.replicate_zero, List.cons_append, List.nil_append, Nat.reduceAdd, Nat.reduceSub, Bool.false_eq_true, ↓reduceIte, Nat.zero_add, gt_iff_lt]
    refine callK_intro (r := .sl xs len (.excl 1)) (st' := st) (.inr ⟨rfl, rfl, .inr ⟨xs, len, .ro, .inl rfl, h, hn, rfl, rfl⟩⟩) ?_
    simp only [swp_seq, swp_reg, swp_block, seqK_n, evK_some, appK_eq, appC_eq, srun_nil, srun_cons, sk_take, sk_give, get_mk, raw_slot, raw_lit, put_some, wb_nil, wb_cons, ev_take, ev_give, ro_excl, got_int, flg, exc, List.map_cons, List.map_nil, List.getD_cons_zero, List.getD_cons_succ, List.set_cons_zero, List.set_cons_succ, List.getElem?_cons_zero, Bool.false_eq_true, ↓reduceIte]
    rw [clamp_eq]
    refine swp_unroll 5 ?_
    simp (maxSteps := 2000000) (disch := first | omega | simp only [List.length_append, List.length_cons, List.length_nil, List.length_map] <;> omega) only [swp_seq, swp_reg, swp_skip, swp_ret, swp_exit, swp_block, swp_cond, seqK_n, seqK_e, blkK_n, blkK_e, condK_t, condK_f, evK_some, appK_eq, srun_nil, srun_cons, fin_ret, sk_mv, sk_give, sk_bin, sk_cvI, sk_bsl, sk_app, get_mk, raw_slot, raw_lit, put_some, wb_nil, wb_cons, ev_mv, ev_give, ev_cvI, bin_sub, bin_mul, bin_geq, unr_succ, unrK_n, unrK_e, ev_bsl, ro_int, ro_excl, got_int, flg, exc, pubs, pubsFrom, List.map_cons, List.map_nil, List.getD_cons_zero, List.getD_cons_succ, List.set_cons_zero, List.set_cons_succ, List.getElem?_cons_zero, List.length_cons, List.length_nil, List.replicate_succ, List.replicate_zero, Nat.reduceLeDiff, Nat.reduceLT, and_true, Bool.false_eq_true, Option.map_some, ↓reduceIte, List.all_cons, List.all_nil, Bool.and_self, List.zip_cons_cons, List.zip_nil_right, rep, fillV, wrCells, cellsV, isCell, List.flatten_cons, List.flatten_nil, List.append_nil, decide_true, decide_false, Nat.mul_one, Nat.zero_add, ge_iff_le, Int.reduceLE, Int.reduceMul, Int.reduceSub, Int.reduceToNat, Int.reduceNeg, Int.reducePow, IntKind.bits, wrap_i64, wrap_u8, bin_shr, Nat.min_def, Nat.le_refl, app_excl]
    exact ⟨_, .same, by rw [be4_bsv]; simp, rfl⟩
  · simp only [sf59, swp_seq, swp_reg, seqK_n, evK_some, appK_eq, srun_nil, srun_cons, stepK_call, swpF_eq, sk_mv, sk_give, sk_min, sk_max, get_mk, raw_slot, raw_lit, put_some, wb_nil, ev_mv, ev_give, ev_min, ev_max, ro_int, ro_nilS, ro_full, got_full, flg, exc, pubs, pubsFrom, List.map_cons, List.map_nil, List.getD_cons_zero, List.getD_cons_succ, List.set_cons_zero, List.set_cons_succ, List.length_cons, List.length_nil, List.replicate_succ, List.replicate_zero, List.cons_append, List.nil_append, Nat.reduceAdd, Nat.reduceSub, Bool.false_eq_true, ↓reduceIte, Nat.zero_add, gt_iff_lt]
    refine callK_intro (r := .sl xs len (.excl 1)) (st' := st) (.inr ⟨rfl, rfl, .inr ⟨xs, len, .full, .inr rfl, h, hn, rfl, rfl⟩⟩) ?_
    simp only [swp_seq, swp_reg, swp_block, seqK_n, evK_some, appK_eq, appC_eq, srun_nil, srun_cons, sk_take, sk_give, get_mk, raw_slot, raw_lit, put_some, wb_nil, wb_cons, ev_take, ev_give, ro_excl, got_int, flg, exc, List.map_cons, List.map_nil, List.getD_cons_zero, List.getD_cons_succ, List.set_cons_zero, List.set_cons_succ, List.getElem?_cons_zero, Bool.false_eq_true, ↓reduceIte]
    rw [clamp_eq]
    refine swp_unroll 5 ?_
    simp (maxSteps := 2000000) (disch := first | omega | simp only [List.length_append, List.length_cons, List.length_nil, List.length_map] <;> omega) only [swp_seq, swp_reg, swp_skip, swp_ret, swp_exit, swp_block, swp_cond, seqK_n, seqK_e, blkK_n, blkK_e, condK_t, condK_f, evK_some, appK_eq, srun_nil, srun_cons, fin_ret, sk_mv, sk_give, sk_bin, sk_cvI, sk_bsl, sk_app, get_mk, raw_slot, raw_lit, put_some, wb_nil, wb_cons, ev_mv, ev_give, ev_cvI, bin_sub, bin_mul, bin_geq, unr_succ, unrK_n, unrK_e, ev_bsl, ro_int, ro_excl, got_int, flg, exc, pubs, pubsFrom, List.map_cons, List.map_nil, List.getD_cons_zero, List.getD_cons_succ, List.set_cons_zero, List.set_cons_succ, List.getElem?_cons_zero, List.length_cons, List.length_nil, List.replicate_succ, List.replicate_zero, Nat.reduceLeDiff, Nat.reduceLT, and_true, Bool.false_eq_true, Option.map_some, ↓reduceIte, List.all_cons, List.all_nil, Bool.and_self, List.zip_cons_cons, List.zip_nil_right, rep, fillV, wrCells, cellsV, isCell, List.flatten_cons, List.flatten_nil, List.append_nil, decide_true, decide_false, Nat.mul_one, Nat.zero_add, ge_iff_le, Int.reduceLE, Int.reduceMul, Int.reduceSub, Int.reduceToNat, Int.reduceNeg, Int.reducePow, IntKind.bits, wrap_i64, wrap_u8, bin_shr, Nat.min_def, Nat.le_refl, app_excl]
    exact ⟨_, .same, by rw [be4_bsv]; simp, rfl⟩
def isBs (v : SV) (l : List UInt8) : Prop := (v = .nilS ∧ l = []) ∨ ∃ f, (f = Fl.ro ∨ f = .full) ∧ v = .sl (bsv l) l.length f
theorem bsv_len (l : List UInt8) : (bsv l).length = l.length := by simp [bsv]
theorem bsv_app (l m : List UInt8) : bsv l ++ bsv m = bsv (l ++ m) := by simp [bsv]
def C13 : List SV → List Ob → SV → List Ob → Prop := fun args st r st' => st' = st ∧ ∃ v l n, isBs v l ∧ l.length ≤ 1099511627776 ∧ args = [v, .int .i64 n] ∧ r = .sl (bsv (l ++ be4 (clampN n))) (l.length + 4) (.excl 1)
def O2 : Orc := O1.add 59 C13
theorem s2 : Sound Tryd.prog O2 := s1.add c59 (by kernel_rfl) (by
  rintro args st r st' ⟨rfl, v, l, n, ⟨rfl, rfl⟩ | ⟨f, hf, rfl⟩, hl, rfl, rfl⟩
  · exact ⟨by simp [sf59], f13n _ _⟩
  · refine ⟨by simp [sf59], ?_⟩
    have := f13 (bsv l) l.length f hf (bsv_len l) hl n st'
    rwa [bsv_app] at this)
def strB (s : List UInt8) : List UInt8 := be4 (min s.length 16384) ++ s.take 16384
theorem clampN_nat (n : Nat) (h : n ≤ 4294967295) : clampN n = n := by
  unfold clampN; split
  · omega
  · split <;> omega
theorem f14 (v : SV) (l : List UInt8) (hv : isBs v l) (hl : l.length ≤ 549755813888) (s : List UInt8) (st : List Ob) : swpF O2 sf37 [v, .str s] st (fun r st' => r = .sl (bsv (l ++ strB s)) (l.length + (strB s).length) (.excl 1) ∧ st' = st) := by
  have key : ∀ v', isBs v' l → O2 59 [v', .int .i64 ((min s.length 16384 : Nat) : Int)] st (.sl (bsv (l ++ be4 (min s.length 16384))) (l.length + 4) (.excl 1)) st := by
    intro v' hv'
    refine .inr ⟨rfl, rfl, v', l, _, hv', by omega, rfl, ?_⟩
    rw [clampN_nat _ (by omega)]
  have hk : (if (16384 : Int) < (s.length : Int) then (16384 : Int) else (s.length : Int)).toNat = min s.length 16384 := by split <;> omega
  have e1 : strB s = be4 (min s.length 16384) ++ s.take (min s.length 16384) := by
    unfold strB
    congr 1
    by_cases h : s.length ≤ 16384
    · rw [Nat.min_eq_left h, List.take_of_length_le h, List.take_of_length_le (Nat.le_refl _)]
    · rw [Nat.min_eq_right (by omega)]
  have e2 : (s.take (min s.length 16384)).length = min s.length 16384 := by rw [List.length_take]; omega
  have e3 : (bsv (l ++ be4 (min s.length 16384))).length = l.length + 4 := by simp [bsv, be4]
  have fin : ∀ {Q : Prop}, (SV.sl (bsv (l ++ be4 (min s.length 16384)) ++ (s.take (min s.length 16384)).map fun b => .int .u8 b.toNat) (l.length + 4 + (s.take (min s.length 16384)).length) (.excl 1) = .sl (bsv (l ++ strB s)) (l.length + (strB s).length) (.excl 1) → Q) → Q := by
    intro Q h
    refine h ?_
    rw [e1]
    congr 1
    · simp [bsv]
    · simp [be4]; omega
  generalize min s.length 16384 = m at *
  rcases hv with ⟨rfl, hnil⟩ | ⟨f, rfl | rfl, rfl⟩
  all_goals
    simp (maxSteps := 2000000) (disch := first | omega | simp only [List.length_append, List.length_cons, List.length_nil, List.length_map] <;> omega) only [sf37, swp_seq, swp_reg, seqK_n, evK_some, appK_eq, srun_nil, srun_cons, stepK_call, swpF_eq, sk_mv, sk_give, sk_lenS, sk_min, sk_slcS, get_mk, raw_slot, raw_lit, put_some, wb_nil, ev_mv, ev_give, ev_lenS, ev_min, slcS_hi, ro_str, ro_nilS, ro_ro, ro_full, got_roo, got_full, got_int, got_nilS, flg, exc, pubs, pubsFrom, List.map_cons, List.map_nil, List.getD_cons_zero, List.getD_cons_succ, List.set_cons_zero, List.set_cons_succ, List.length_cons, List.length_nil, List.replicate_succ, List.replicate_zero, List.cons_append, List.nil_append, Nat.reduceAdd, Nat.reduceSub, Bool.false_eq_true, ↓reduceIte, Nat.zero_add]
    rw [hk, e2]
  · refine callK_intro (key _ (.inl ⟨rfl, hnil⟩)) ?_
    simp (maxSteps := 2000000) (disch := first | omega | simp only [List.length_append, List.length_cons, List.length_nil, List.length_map] <;> omega) only [swp_ret, seqK_n, evK_some, appK_eq, appC_eq, srun_nil, srun_cons, fin_ret, sk_mv, sk_give, sk_app, get_mk, raw_slot, put_some, wb_nil, wb_cons, ev_mv, ev_give, app_excl_str, ro_str, ro_excl, flg, List.map_cons, List.map_nil, List.getD_cons_zero, List.getD_cons_succ, List.set_cons_zero, List.set_cons_succ, List.getElem?_cons_zero, ↓reduceIte]
    exact fin fun h => ⟨_, .same, h, rfl⟩
  · refine callK_intro (key _ (.inr ⟨_, .inl rfl, rfl⟩)) ?_
    simp (maxSteps := 2000000) (disch := first | omega | simp only [List.length_append, List.length_cons, List.length_nil, List.length_map] <;> omega) only [swp_ret, seqK_n, evK_some, appK_eq, appC_eq, srun_nil, srun_cons, fin_ret, sk_mv, sk_give, sk_app, get_mk, raw_slot, put_some, wb_nil, wb_cons, ev_mv, ev_give, app_excl_str, ro_str, ro_excl, flg, List.map_cons, List.map_nil, List.getD_cons_zero, List.getD_cons_succ, List.set_cons_zero, List.set_cons_succ, List.getElem?_cons_zero, ↓reduceIte]
    exact fin fun h => ⟨_, .same, h, rfl⟩
  · refine callK_intro (key _ (.inr ⟨_, .inr rfl, rfl⟩)) ?_
    simp (maxSteps := 2000000) (disch := first | omega | simp only [List.length_append, List.length_cons, List.length_nil, List.length_map] <;> omega) only [swp_ret, seqK_n, evK_some, appK_eq, appC_eq, srun_nil, srun_cons, fin_ret, sk_mv, sk_give, sk_app, get_mk, raw_slot, put_some, wb_nil, wb_cons, ev_mv, ev_give, app_excl_str, ro_str, ro_excl, flg, List.map_cons, List.map_nil, List.getD_cons_zero, List.getD_cons_succ, List.set_cons_zero, List.set_cons_succ, List.getElem?_cons_zero, ↓reduceIte]
    exact fin fun h => ⟨_, .same, h, rfl⟩
def C14 : List SV → List Ob → SV → List Ob → Prop := fun args st r st' => st' = st ∧ ∃ v l s, isBs v l ∧ l.length ≤ 549755813888 ∧ args = [v, .str s] ∧ r = .sl (bsv (l ++ strB s)) (l.length + (strB s).length) (.excl 1)
def O3 : Orc := O2.add 37 C14
theorem s3 : Sound Tryd.prog O3 := s2.add c37 (by kernel_rfl) (by
  rintro args st r st' ⟨rfl, v, l, n, hv, hl, rfl, rfl⟩
  exact ⟨by simp [sf37], f14 v l hv hl n _⟩)
theorem f34 (O : Orc) (v : SV) (at_ err e at' : Int) (id : Nat) (st : List Ob) (h : st[id]? = some (.cells [v, .int .i64 at_, .int .i64 err])) : swpF O sf62 [.ptr id 0, .int .i64 e, .int .i64 at'] st (fun r st' => r = .tup [] ∧ st' = if err = 0 then setOb st id [v, .int .i64 at', .int .i64 e] else st) := by
  have hlt := ob_lt h
  by_cases h0 : err = 0
  · subst h0
    simp only [sf62, h, hlt, swp_seq, swp_reg, swp_cond, seqK_n, condK_t, evK_some, appK_eq, srun_nil, srun_cons, fin_n, fin_nil, swpF_eq, sk_mv, sk_bin, sk_nilc, sk_fld, sk_load, sk_store, get_mk, raw_slot, raw_lit, put_some, put_none, wb_nil, ev_mv, ev_nilc, ev_fld, bin_eql, ev_ldP, ldP_some, stP_some, setOb_setOb, ro_int, ro_ptr, List.map_cons, List.map_nil, List.getD_cons_zero, List.getD_cons_succ, List.set_cons_zero, List.set_cons_succ, List.getElem?_cons_zero, List.getElem?_cons_succ, List.length_cons, List.length_nil, List.replicate_succ, List.replicate_zero, List.cons_append, List.nil_append, Nat.reduceAdd, Nat.reduceSub, Nat.reduceLT, true_and, Option.map_some, ↓reduceIte, Nat.zero_add, beq_self_eq_true, st_int, setOb_same]
    exact ⟨_, .same, rfl⟩
  · have hb : (err == 0) = false := by simpa using h0
    simp only [sf62, h, hb, if_neg h0, swp_seq, swp_reg, swp_skip, swp_cond, seqK_n, condK_f, evK_some, appK_eq, srun_nil, srun_cons, fin_n, fin_nil, swpF_eq, sk_mv, sk_bin, sk_nilc, sk_fld, sk_load, get_mk, raw_slot, raw_lit, put_some, wb_nil, ev_mv, ev_nilc, ev_fld, bin_eql, ev_ldP, ldP_some, ro_int, ro_ptr, List.map_cons, List.map_nil, List.getD_cons_zero, List.getD_cons_succ, List.set_cons_zero, List.set_cons_succ, List.getElem?_cons_zero, List.getElem?_cons_succ, List.length_cons, List.length_nil, List.replicate_succ, List.replicate_zero, List.cons_append, List.nil_append, Nat.reduceAdd, Nat.reduceSub, true_and, Option.map_some, Nat.zero_add]
    exact ⟨_, .same, rfl⟩
def C34 : List SV → List Ob → SV → List Ob → Prop := fun args st r st' => ∃ v at_ err e at' id, st[id]? = some (.cells [v, .int .i64 at_, .int .i64 err]) ∧ args = [.ptr id 0, .int .i64 e, .int .i64 at'] ∧ r = .tup [] ∧ st' = if err = 0 then setOb st id [v, .int .i64 at', .int .i64 e] else st
def O4 : Orc := O3.add 62 C34
theorem s4 : Sound Tryd.prog O4 := s3.add c62 (by kernel_rfl) (by
  rintro args st r st' ⟨v, at_, err, e, at', id, h, rfl, rfl, rfl⟩
  exact ⟨by simp [sf62], f34 _ v at_ err e at' id st h⟩)
end Go.Sh.W
namespace Go.Sh.W
open Go.Sh.F
open Go.Proofs
theorem bsv_take (l : List UInt8) (n : Nat) : (bsv l).take n = bsv (l.take n) := by simp [bsv, List.map_take]
theorem bsv_drop (l : List UInt8) (n : Nat) : (bsv l).drop n = bsv (l.drop n) := by simp [bsv, List.map_drop]
theorem four {l : List UInt8} {n : Nat} (h : n + 4 ≤ l.length) : ∃ b0 b1 b2 b3, (l.take (n + 4)).drop n = [b0, b1, b2, b3] := by
  have : ((l.take (n + 4)).drop n).length = 4 := by simp; omega
  generalize (l.take (n + 4)).drop n = m at this
  match m, this with
  | [a, b, c, d], _ => exact ⟨a, b, c, d, rfl⟩
def num4 (m : List UInt8) : Nat := m.foldl (fun a b => a * 256 + b.toNat) 0
structure RdS where
  l : List UInt8
  p : Nat
  e : Int
def rdv (v : SV) (l : List UInt8) : Prop := (v = .nilS ∧ l = []) ∨ v = .sl (bsv l) l.length .ro
def numF (s : RdS) (most : Int) : Int × RdS :=
  if s.e ≠ 0 then (0, s) else if s.l.length < s.p + 4 then (0, { s with e := 4 }) else
  if most < num4 ((s.l.take (s.p + 4)).drop s.p) then (0, { s with e := 5 }) else (num4 ((s.l.take (s.p + 4)).drop s.p), { s with p := s.p + 4 })
theorem setOb_self {st : List Ob} {id : Nat} {l : List SV} (h : st[id]? = some (.cells l)) : setOb st id l = st := by
  unfold setOb
  obtain ⟨hlt, he⟩ := List.getElem?_eq_some_iff.1 h
  rw [← he, List.set_getElem_self]
theorem f22 (s : RdS) (id : Nat) (st : List Ob) (most : Int) (v : SV) (hv : rdv v s.l) (hl : s.l.length ≤ 1099511627776) (hp : s.p ≤ s.l.length) (h : st[id]? = some (.cells [v, .int .i64 s.p, .int .i64 s.e])) :
    swpF O4 sf42 [.ptr id 0, .int .i64 most] st (fun r st' => r = .int .i64 (numF s most).1 ∧ st' = setOb st id [v, .int .i64 (numF s most).2.p, .int .i64 (numF s most).2.e]) := by
  obtain ⟨l, at_, err⟩ := s
  simp only at hv hl hp h ⊢
  have hlt := ob_lt h
  by_cases he : err = 0
  case neg =>
    have hb : (err != 0) = true := by simpa using he
    simp only [sf42, h, hb, swp_seq, swp_reg, swp_ret, swp_cond, seqK_n, seqK_r, condK_t, evK_some, appK_eq, srun_nil, srun_cons, fin_ret, swpF_eq, sk_mv, sk_give, sk_bin, sk_nilc, sk_fld, sk_load, get_mk, raw_slot, raw_lit, put_some, wb_nil, ev_mv, ev_give, ev_nilc, ev_fld, bin_neq, ev_ldP, ldP_some, ro_int, ro_ptr, flg, List.map_cons, List.map_nil, List.getD_cons_zero, List.getD_cons_succ, List.set_cons_zero, List.set_cons_succ, List.getElem?_cons_zero, List.getElem?_cons_succ, List.length_cons, List.length_nil, List.replicate_succ, List.replicate_zero, List.cons_append, List.nil_append, Nat.reduceAdd, Nat.reduceSub, Bool.false_eq_true, Option.map_some, ↓reduceIte, Nat.zero_add]
    exact ⟨_, .same, by simp [numF, he], by simp only [numF, ne_eq, he, not_false_eq_true, if_true]; exact (setOb_self h).symm⟩
  subst he
  by_cases h4 : at_ + 4 ≤ l.length
  case neg =>
    have hf : O4 62 [.ptr id 0, .int .i64 4, .int .i64 at_] st (.tup []) (setOb st id [v, .int .i64 at_, .int .i64 4]) := .inr ⟨rfl, v, at_, 0, 4, at_, id, h, rfl, rfl, rfl⟩
    have hr : numF ⟨l, at_, 0⟩ most = (0, ⟨l, at_, 4⟩) := by
      have : l.length < at_ + 4 := by omega
      simp [numF, this]
    rw [hr]
    rcases hv with ⟨rfl, rfl⟩ | rfl
    · have hd : decide ((0 : Int) - at_ < 4) = true := by simp; omega
      simp (maxSteps := 2000000) (disch := first | omega | simp only [List.length_append, List.length_cons, List.length_nil, List.length_map] <;> omega) only [sf42, h, hd, swp_seq, swp_reg, swp_skip, swp_cond, seqK_n, condK_t, condK_f, evK_some, appK_eq, srun_nil, srun_cons, stepK_call, swpF_eq, sk_mv, sk_give, sk_bin, sk_nilc, sk_fld, sk_load, sk_lenL, get_mk, raw_slot, raw_lit, put_some, wb_nil, ev_mv, ev_give, ev_nilc, ev_fld, ev_lenN, bin_sub, bin_neq, bin_lss, ev_ldP, ldP_some, ro_int, ro_nilS, ro_ptr, got_int, got_ptr, flg, exc, pubs, pubsFrom, List.map_cons, List.map_nil, List.getD_cons_zero, List.getD_cons_succ, List.set_cons_zero, List.set_cons_succ, List.getElem?_cons_zero, List.getElem?_cons_succ, List.length_cons, List.length_nil, List.replicate_succ, List.replicate_zero, List.cons_append, List.nil_append, Nat.reduceAdd, Nat.reduceSub, Bool.false_eq_true, Option.map_some, ↓reduceIte, Nat.zero_add, bne_self_eq_false, wrap_i64]
      refine callK_intro hf ?_
      simp (maxSteps := 2000000) (disch := first | omega | simp only [List.length_append, List.length_cons, List.length_nil, List.length_map] <;> omega) only [swp_seq, swp_reg, swp_ret, seqK_n, seqK_r, evK_some, appK_eq, appC_eq, srun_nil, srun_cons, fin_ret, sk_give, get_mk, raw_lit, put_some, wb_nil, ev_give, ro_int, flg, List.map_cons, List.map_nil, List.getD_cons_zero, List.getD_cons_succ, List.set_cons_zero, List.set_cons_succ, true_and, Bool.false_eq_true, ↓reduceIte]
      exact ⟨_, .same, rfl⟩
    · have hd : decide ((l.length : Int) - at_ < 4) = true := by simp; omega
      simp (maxSteps := 2000000) (disch := first | omega | simp only [List.length_append, List.length_cons, List.length_nil, List.length_map] <;> omega) only [sf42, h, hd, swp_seq, swp_reg, swp_skip, swp_cond, seqK_n, condK_t, condK_f, evK_some, appK_eq, srun_nil, srun_cons, stepK_call, swpF_eq, sk_mv, sk_give, sk_bin, sk_nilc, sk_fld, sk_load, sk_lenL, get_mk, raw_slot, raw_lit, put_some, wb_nil, ev_mv, ev_give, ev_nilc, ev_fld, ev_lenL, bin_sub, bin_neq, bin_lss, ev_ldP, ldP_some, ro_int, ro_ptr, ro_ro, got_int, got_ptr, flg, exc, pubs, pubsFrom, List.map_cons, List.map_nil, List.getD_cons_zero, List.getD_cons_succ, List.set_cons_zero, List.set_cons_succ, List.getElem?_cons_zero, List.getElem?_cons_succ, List.length_cons, List.length_nil, List.replicate_succ, List.replicate_zero, List.cons_append, List.nil_append, Nat.reduceAdd, Nat.reduceSub, Bool.false_eq_true, Option.map_some, ↓reduceIte, Nat.zero_add, bne_self_eq_false, wrap_i64]
      refine callK_intro hf ?_
      simp (maxSteps := 2000000) (disch := first | omega | simp only [List.length_append, List.length_cons, List.length_nil, List.length_map] <;> omega) only [swp_seq, swp_reg, swp_ret, seqK_n, seqK_r, evK_some, appK_eq, appC_eq, srun_nil, srun_cons, fin_ret, sk_give, get_mk, raw_lit, put_some, wb_nil, ev_give, ro_int, flg, List.map_cons, List.map_nil, List.getD_cons_zero, List.getD_cons_succ, List.set_cons_zero, List.set_cons_succ, true_and, Bool.false_eq_true, ↓reduceIte]
      exact ⟨_, .same, rfl⟩
  have hv : v = .sl (bsv l) l.length .ro := by
    rcases hv with ⟨_, rfl⟩ | hv
    · simp at h4
    · exact hv
  subst hv
  obtain ⟨b0, b1, b2, b3, hb⟩ := four h4
  have hN : ((at_ : Int) + 4).toNat = at_ + 4 := by omega
  have hsl : List.drop at_ (List.take (at_ + 4) (bsv l)) = bsv [b0, b1, b2, b3] := by rw [bsv_take, bsv_drop, hb]
  have hd : decide ((l.length : Int) - at_ < 4) = false := by simp; omega
  have hbl := bsv_len l
  have l0 := b0.toNat_lt
  have l1 := b1.toNat_lt
  have l2 := b2.toNat_lt
  have l3 := b3.toNat_lt
  have hsub : ((at_ : Int) + 4 - at_).toNat = 4 := by omega
  have hc : ∀ c : UInt8, IntKind.i64.wrap (c.toNat : Int) = c.toNat := fun c => by have := c.toNat_lt; exact wrap_i64 (by omega) (by omega)
  have hb4 : bsv [b0, b1, b2, b3] = [.int .u8 b0.toNat, .int .u8 b1.toNat, .int .u8 b2.toNat, .int .u8 b3.toNat] := rfl
  have hnum : num4 [b0, b1, b2, b3] = ((b0.toNat * 256 + b1.toNat) * 256 + b2.toNat) * 256 + b3.toNat := by simp [num4]
  have hn1 : ¬ l.length < at_ + 4 := by omega
  have hr : numF ⟨l, at_, 0⟩ most = if most < ((num4 [b0, b1, b2, b3] : Nat) : Int) then ((0 : Int), (⟨l, at_, 5⟩ : RdS)) else (((num4 [b0, b1, b2, b3] : Nat) : Int), (⟨l, at_ + 4, 0⟩ : RdS)) := by
    simp only [numF, hn1, hb, ne_eq, not_true_eq_false, if_false]
  rw [hr, hnum]
  clear hr hnum
  obtain ⟨n, hn⟩ : ∃ n, n = ((b0.toNat * 256 + b1.toNat) * 256 + b2.toNat) * 256 + b3.toNat := ⟨_, rfl⟩
  rw [← hn]
  simp (maxSteps := 2000000) (disch := first | omega | simp only [List.length_append, List.length_cons, List.length_nil, List.length_map] <;> omega) only [sf42, h, hN, hsl, hd, hsub, hb4, Int.toNat_natCast, swp_seq, swp_reg, swp_skip, swp_block, swp_cond, seqK_n, condK_f, evK_some, appK_eq, srun_nil, srun_cons, swpF_eq, sk_mv, sk_take, sk_give, sk_bin, sk_nilc, sk_fld, sk_load, sk_lenL, sk_slcL, get_mk, raw_slot, raw_lit, put_some, wb_nil, ev_mv, ev_take, ev_give, ev_nilc, ev_fld, ev_lenL, bin_add, bin_sub, bin_neq, bin_lss, ev_ldP, ldP_some, slcL_both_ro, ro_int, ro_ptr, ro_ro, got_int, flg, exc, List.map_cons, List.map_nil, List.getD_cons_zero, List.getD_cons_succ, List.set_cons_zero, List.set_cons_succ, List.getElem?_cons_zero, List.getElem?_cons_succ, List.length_cons, List.length_nil, List.replicate_succ, List.replicate_zero, List.cons_append, List.nil_append, Nat.reduceAdd, Nat.reduceSub, Bool.false_eq_true, Option.map_some, ↓reduceIte, Nat.mul_one, Nat.zero_add, bne_self_eq_false, Int.cast_ofNat_Int, wrap_i64]
  refine swp_unroll 5 ?_
  simp (maxSteps := 2000000) (disch := first | omega | simp only [List.length_append, List.length_cons, List.length_nil, List.length_map] <;> omega) only [hc, sk_idxB, idxB_ro, swp_seq, swp_reg, swp_skip, swp_exit, swp_block, swp_cond, seqK_n, seqK_e, blkK_n, blkK_e, condK_t, condK_f, evK_some, appK_eq, srun_nil, srun_cons, sk_mv, sk_give, sk_bin, sk_cvI, sk_load, get_mk, raw_slot, raw_lit, put_some, wb_nil, ev_mv, ev_give, ev_cvI, bin_add, bin_or, bin_lss, bin_gtr, unr_succ, unrK_n, unrK_e, ev_loadE, ro_int, flg, List.map_cons, List.map_nil, List.getD_cons_zero, List.getD_cons_succ, List.set_cons_zero, List.set_cons_succ, List.getElem?_cons_zero, List.getElem?_cons_succ, Nat.reduceLeDiff, Bool.false_eq_true, Option.map_some, ↓reduceIte, decide_true, decide_false, Nat.mul_one, gt_iff_lt, or_step, or_zero, Int.zero_mul, Int.reduceLT, Int.reduceAdd, Int.reduceToNat, Int.reducePow, IntKind.bits, wrap_i64, bin_shl, Nat.min_def]
  rw [← hn]
  by_cases hm : most < (n : Int)
  · have hf : O4 62 [.ptr id 0, .int .i64 5, .int .i64 at_] st (.tup []) (setOb st id [.sl (bsv l) l.length .ro, .int .i64 at_, .int .i64 5]) := .inr ⟨rfl, _, at_, 0, 5, at_, id, h, rfl, rfl, rfl⟩
    simp (maxSteps := 2000000) (disch := first | omega | simp only [List.length_append, List.length_cons, List.length_nil, List.length_map] <;> omega) only [hm, h, swp_seq, swp_reg, condK_t, evK_some, appK_eq, srun_cons, stepK_call, sk_mv, sk_nilc, sk_fld, sk_load, get_mk, raw_slot, raw_lit, put_some, wb_nil, ev_mv, ev_nilc, ev_fld, ev_ldP, ldP_some, ro_int, ro_ptr, got_int, got_ptr, exc, pubs, pubsFrom, List.map_cons, List.map_nil, List.getD_cons_zero, List.getD_cons_succ, List.set_cons_zero, List.set_cons_succ, List.getElem?_cons_zero, List.getElem?_cons_succ, Bool.false_eq_true, Option.map_some, ↓reduceIte, decide_true, Nat.zero_add]
    refine callK_intro hf ?_
    simp (maxSteps := 2000000) (disch := first | omega | simp only [List.length_append, List.length_cons, List.length_nil, List.length_map] <;> omega) only [swp_seq, swp_reg, swp_ret, seqK_n, seqK_r, evK_some, appK_eq, appC_eq, srun_nil, srun_cons, fin_ret, sk_give, get_mk, raw_lit, put_some, wb_nil, ev_give, ro_int, flg, List.map_cons, List.map_nil, List.getD_cons_zero, List.getD_cons_succ, List.set_cons_zero, List.set_cons_succ, true_and, Bool.false_eq_true, ↓reduceIte]
    exact ⟨_, .same, rfl⟩
  · simp (maxSteps := 2000000) (disch := first | omega | simp only [List.length_append, List.length_cons, List.length_nil, List.length_map] <;> omega) only [hm, h, swp_seq, swp_reg, swp_skip, swp_ret, seqK_n, condK_f, evK_some, appK_eq, srun_nil, srun_cons, fin_ret, sk_mv, sk_give, sk_bin, sk_nilc, sk_fld, sk_load, sk_store, get_mk, raw_slot, raw_lit, put_some, put_none, wb_nil, ev_mv, ev_give, ev_nilc, ev_fld, bin_add, ev_ldP, ldP_some, stP_some, ro_int, ro_ptr, flg, List.map_cons, List.map_nil, List.getD_cons_zero, List.getD_cons_succ, List.set_cons_zero, List.set_cons_succ, List.getElem?_cons_zero, List.getElem?_cons_succ, List.length_cons, List.length_nil, Nat.reduceAdd, Nat.reduceLT, true_and, Bool.false_eq_true, Option.map_some, ↓reduceIte, decide_false, Nat.zero_add, st_int, wrap_i64]
    exact ⟨_, .same, by simp⟩
def C22 : List SV → List Ob → SV → List Ob → Prop := fun args st r st' => ∃ s v id most, rdv v s.l ∧ s.l.length ≤ 1099511627776 ∧ s.p ≤ s.l.length ∧ st[id]? = some (.cells [v, .int .i64 s.p, .int .i64 s.e]) ∧ args = [.ptr id 0, .int .i64 most] ∧ r = .int .i64 (numF s most).1 ∧ st' = setOb st id [v, .int .i64 (numF s most).2.p, .int .i64 (numF s most).2.e]
def O5 : Orc := O4.add 42 C22
theorem s5 : Sound Tryd.prog O5 := s4.add c42 (by kernel_rfl) (by
  rintro args st r st' ⟨s, v, id, most, hv, hl, hp, h, rfl, rfl, rfl⟩
  exact ⟨by simp [sf42], f22 s id st most v hv hl hp h⟩)
end Go.Sh.W
namespace Go.Sh.W
open Go.Sh.F
open Go.Proofs
theorem num4_lt (m : List UInt8) (h : m.length = 4) : num4 m < 4294967296 := by
  match m, h with
  | [a, b, c, d], _ =>
    have := a.toNat_lt
    have := b.toNat_lt
    have := c.toNat_lt
    have := d.toNat_lt
    simp only [num4, List.foldl_cons, List.foldl_nil]
    omega
theorem b2s_bsv {st : List Ob} {l : List UInt8} {n : Nat} {f : Fl} : ev st .b2s [.sl (bsv l) n f] = if n = l.length then some (.str l, [], st) else none := b2s_bytes
theorem numF_spec (s : RdS) (most : Int) (hp : s.p ≤ s.l.length) : ∃ (n : Nat) (p : Nat) (e : Int), numF s most = ((n : Int), ⟨s.l, p, e⟩) ∧ n < 4294967296 ∧ p ≤ s.l.length := by
  unfold numF
  split
  · exact ⟨0, s.p, s.e, rfl, by omega, hp⟩
  · split
    · exact ⟨0, s.p, 4, rfl, by omega, hp⟩
    · split
      · exact ⟨0, s.p, 5, rfl, by omega, hp⟩
      · rename_i h0 h1 h2
        refine ⟨_, s.p + 4, s.e, rfl, num4_lt _ (by simp; omega), by omega⟩
def minI (a b : Int) : Int := if b < a then b else a
def textF (s : RdS) (most : Int) : List UInt8 × RdS :=
  match numF s (minI most 16384) with
  | (n, s1) => if s1.e ≠ 0 then ([], s1) else if (s1.l.length : Int) - s1.p < n then ([], { s1 with p := s.p, e := 4 })
    else ((s1.l.take (s1.p + n.toNat)).drop s1.p, { s1 with p := s1.p + n.toNat })
set_option maxHeartbeats 2000000 in
theorem f24 (s : RdS) (id : Nat) (st : List Ob) (most : Int) (v : SV) (hv : rdv v s.l) (hl : s.l.length ≤ 1099511627776) (hp : s.p ≤ s.l.length) (h : st[id]? = some (.cells [v, .int .i64 s.p, .int .i64 s.e])) :
    swpF O5 sf63 [.ptr id 0, .int .i64 most] st (fun r st' => r = .str (textF s most).1 ∧ st' = setOb st id [v, .int .i64 (textF s most).2.p, .int .i64 (textF s most).2.e]) := by
  have hlt := ob_lt h
  obtain ⟨n, p, e, hn, hnl, hpl⟩ := numF_spec s (minI most 16384) hp
  have hf : O5 42 [.ptr id 0, .int .i64 (minI most 16384)] st (.int .i64 n) (setOb st id [v, .int .i64 p, .int .i64 e]) := by
    refine .inr ⟨rfl, s, v, id, _, hv, hl, hp, h, rfl, ?_, ?_⟩
    · rw [hn]
    · rw [hn]
  have hm : (if (16384 : Int) < most then 16384 else most) = minI most 16384 := rfl
  have ht : textF s most = if e ≠ 0 then ([], (⟨s.l, p, e⟩ : RdS)) else if (s.l.length : Int) - p < n then ([], ⟨s.l, s.p, 4⟩) else ((s.l.take (p + n)).drop p, ⟨s.l, p + n, e⟩) := by
    unfold textF; rw [hn]; rfl
  rw [ht]
  clear ht hn
  simp (maxSteps := 2000000) (disch := first | omega | simp only [List.length_append, List.length_cons, List.length_nil, List.length_map] <;> omega) only [sf63, h, hm, swp_seq, swp_reg, seqK_n, evK_some, appK_eq, srun_nil, srun_cons, stepK_call, swpF_eq, sk_mv, sk_give, sk_nilc, sk_fld, sk_load, sk_min, get_mk, raw_slot, raw_lit, put_some, wb_nil, ev_mv, ev_give, ev_nilc, ev_fld, ev_min, ev_ldP, ldP_some, ro_int, ro_str, ro_ptr, got_int, got_ptr, flg, exc, pubs, pubsFrom, List.map_cons, List.map_nil, List.getD_cons_zero, List.getD_cons_succ, List.set_cons_zero, List.set_cons_succ, List.getElem?_cons_zero, List.getElem?_cons_succ, List.length_cons, List.length_nil, List.replicate_succ, List.replicate_zero, List.cons_append, List.nil_append, Nat.reduceAdd, Nat.reduceSub, Bool.false_eq_true, Option.map_some, ↓reduceIte, Nat.zero_add, ne_eq]
  refine callK_intro hf ?_
  by_cases he : e = 0
  case neg =>
    have hb : (e == 0) = false := by simpa using he
    have hb' : (e != 0) = true := by simpa using he
    simp (maxSteps := 2000000) (disch := first | omega | simp only [List.length_append, List.length_cons, List.length_nil, List.length_map] <;> omega) only [hb, hb', he, swp_seq, swp_reg, swp_skip, swp_ret, swp_cond, seqK_n, seqK_r, condK_t, condK_f, evK_some, appK_eq, appC_eq, grd_t, srun_nil, srun_cons, stepK_grd, fin_ret, sk_mv, sk_give, sk_pick, sk_bin, sk_nilc, sk_fld, sk_load, get_mk, raw_slot, raw_lit, put_some, wb_nil, ev_mv, ev_give, ev_pick, ev_nilc, ev_fld, bin_eql, bin_neq, ev_ldP, ldP_some, ro_int, ro_bool, ro_str, ro_ptr, flg, List.map_cons, List.map_nil, List.getD_cons_zero, List.getD_cons_succ, List.set_cons_zero, List.set_cons_succ, List.getElem?_cons_zero, List.getElem?_cons_succ, true_and, Bool.false_eq_true, Option.map_some, ↓reduceIte, Nat.zero_add, not_false_eq_true, setOb_same]
    exact ⟨_, .same, rfl⟩
  subst he
  rcases hv with ⟨rfl, hv⟩ | rfl
  · have hp0 : p = 0 := by rw [hv] at hpl; simpa using hpl
    subst hp0
    by_cases hn0 : n = 0
    · subst hn0
      simp only [hv]
      simp (maxSteps := 2000000) (disch := first | omega | simp only [List.length_append, List.length_cons, List.length_nil, List.length_map] <;> omega) only [swp_seq, swp_reg, swp_skip, swp_ret, swp_cond, seqK_n, condK_f, evK_some, appK_eq, appC_eq, grd_t, srun_nil, srun_cons, stepK_grd, fin_ret, sk_mv, sk_give, sk_pick, sk_bin, sk_b2s, sk_nilc, sk_fld, sk_load, sk_store, sk_lenL, sk_slcL, get_mk, raw_slot, raw_lit, put_some, put_none, wb_nil, ev_mv, ev_give, ev_pick, ev_nilc, ev_fld, ev_lenN, bin_add, bin_sub, bin_eql, bin_neq, bin_lss, ev_b2sN, ev_ldP, ldP_some, stP_some, setOb_setOb, slcL_nil_both, ro_int, ro_bool, ro_str, ro_nilS, ro_ptr, flg, List.map_cons, List.map_nil, List.getD_cons_zero, List.getD_cons_succ, List.set_cons_zero, List.set_cons_succ, List.getElem?_cons_zero, List.getElem?_cons_succ, List.length_cons, List.length_nil, Nat.reduceAdd, Nat.reduceLT, Bool.false_eq_true, Option.map_some, ↓reduceIte, decide_false, Nat.zero_add, beq_self_eq_true, bne_self_eq_false, st_int, setOb_same, Int.cast_ofNat_Int, Int.reduceLT, Int.reduceSub, Int.reduceAdd, wrap_i64, not_true_eq_false]
      exact ⟨_, .same, rfl, rfl⟩
    · have hf4 : O5 62 [.ptr id 0, .int .i64 4, .int .i64 s.p] (setOb st id [.nilS, .int .i64 ((0 : Nat) : Int), .int .i64 0]) (.tup []) (setOb (setOb st id [.nilS, .int .i64 ((0 : Nat) : Int), .int .i64 0]) id [.nilS, .int .i64 s.p, .int .i64 4]) :=
        .inl (.inr ⟨rfl, .nilS, _, 0, 4, _, id, setOb_same hlt, rfl, rfl, rfl⟩)
      have hd : (0 : Int) < n := by omega
      have hd2 : (s.l.length : Int) - ((0 : Nat) : Int) < n := by rw [hv]; simpa using hd
      rw [if_neg (by simp), if_pos hd2]
      simp (maxSteps := 2000000) (disch := first | omega | simp only [List.length_append, List.length_cons, List.length_nil, List.length_map] <;> omega) only [hd, swp_seq, swp_reg, swp_cond, seqK_n, condK_t, evK_some, appK_eq, appC_eq, grd_t, srun_nil, srun_cons, stepK_call, stepK_grd, sk_mv, sk_give, sk_pick, sk_bin, sk_nilc, sk_fld, sk_load, sk_lenL, get_mk, raw_slot, raw_lit, put_some, wb_nil, ev_mv, ev_give, ev_pick, ev_nilc, ev_fld, ev_lenN, bin_sub, bin_eql, bin_lss, ev_ldP, ldP_some, ro_int, ro_bool, ro_nilS, ro_ptr, got_int, got_ptr, flg, exc, pubs, pubsFrom, List.map_cons, List.map_nil, List.getD_cons_zero, List.getD_cons_succ, List.set_cons_zero, List.set_cons_succ, List.getElem?_cons_zero, List.getElem?_cons_succ, Bool.false_eq_true, Option.map_some, ↓reduceIte, decide_true, Nat.zero_add, beq_self_eq_true, setOb_same, Int.cast_ofNat_Int, Int.reduceSub, wrap_i64]
      refine callK_intro hf4 ?_
      simp (maxSteps := 2000000) (disch := first | omega | simp only [List.length_append, List.length_cons, List.length_nil, List.length_map] <;> omega) only [swp_seq, swp_reg, swp_ret, swp_cond, seqK_n, seqK_r, condK_t, evK_some, appK_eq, appC_eq, srun_nil, srun_cons, fin_ret, sk_mv, sk_give, sk_bin, sk_nilc, sk_fld, sk_load, get_mk, raw_slot, raw_lit, put_some, wb_nil, ev_mv, ev_give, ev_nilc, ev_fld, bin_neq, ev_ldP, ldP_some, setOb_setOb, ro_int, ro_str, ro_ptr, flg, List.map_cons, List.map_nil, List.getD_cons_zero, List.getD_cons_succ, List.set_cons_zero, List.set_cons_succ, List.getElem?_cons_zero, List.getElem?_cons_succ, true_and, Bool.false_eq_true, Option.map_some, ↓reduceIte, Nat.zero_add, Int.reduceBNe, setOb_same, Int.cast_ofNat_Int]
      exact ⟨_, .same, rfl⟩
  · have hbl := bsv_len s.l
    by_cases hs : (s.l.length : Int) - p < n
    · have hb : decide ((s.l.length : Int) - p < n) = true := by simpa using hs
      have hf4 : O5 62 [.ptr id 0, .int .i64 4, .int .i64 s.p] (setOb st id [.sl (bsv s.l) s.l.length .ro, .int .i64 (p : Int), .int .i64 0]) (.tup []) (setOb (setOb st id [.sl (bsv s.l) s.l.length .ro, .int .i64 (p : Int), .int .i64 0]) id [.sl (bsv s.l) s.l.length .ro, .int .i64 s.p, .int .i64 4]) :=
        .inl (.inr ⟨rfl, _, _, 0, 4, _, id, setOb_same hlt, rfl, rfl, rfl⟩)
      rw [if_neg (by simp), if_pos hs]
      simp (maxSteps := 2000000) (disch := first | omega | simp only [List.length_append, List.length_cons, List.length_nil, List.length_map] <;> omega) only [hb, swp_seq, swp_reg, swp_cond, seqK_n, condK_t, evK_some, appK_eq, appC_eq, grd_t, srun_nil, srun_cons, stepK_call, stepK_grd, sk_mv, sk_give, sk_pick, sk_bin, sk_nilc, sk_fld, sk_load, sk_lenL, get_mk, raw_slot, raw_lit, put_some, wb_nil, ev_mv, ev_give, ev_pick, ev_nilc, ev_fld, ev_lenL, bin_sub, bin_eql, bin_lss, ev_ldP, ldP_some, ro_int, ro_bool, ro_ptr, ro_ro, got_int, got_ptr, flg, exc, pubs, pubsFrom, List.map_cons, List.map_nil, List.getD_cons_zero, List.getD_cons_succ, List.set_cons_zero, List.set_cons_succ, List.getElem?_cons_zero, List.getElem?_cons_succ, Bool.false_eq_true, Option.map_some, ↓reduceIte, Nat.zero_add, beq_self_eq_true, setOb_same, wrap_i64]
      refine callK_intro hf4 ?_
      simp (maxSteps := 2000000) (disch := first | omega | simp only [List.length_append, List.length_cons, List.length_nil, List.length_map] <;> omega) only [swp_seq, swp_reg, swp_ret, swp_cond, seqK_n, seqK_r, condK_t, evK_some, appK_eq, appC_eq, srun_nil, srun_cons, fin_ret, sk_mv, sk_give, sk_bin, sk_nilc, sk_fld, sk_load, get_mk, raw_slot, raw_lit, put_some, wb_nil, ev_mv, ev_give, ev_nilc, ev_fld, bin_neq, ev_ldP, ldP_some, setOb_setOb, ro_int, ro_str, ro_ptr, flg, List.map_cons, List.map_nil, List.getD_cons_zero, List.getD_cons_succ, List.set_cons_zero, List.set_cons_succ, List.getElem?_cons_zero, List.getElem?_cons_succ, true_and, Bool.false_eq_true, Option.map_some, ↓reduceIte, Nat.zero_add, Int.reduceBNe, setOb_same]
      exact ⟨_, .same, rfl⟩
    · have hb : decide ((s.l.length : Int) - p < n) = false := by simpa using hs
      rw [if_neg (by simp), if_neg hs]
      simp (maxSteps := 2000000) (disch := first | omega | simp only [List.length_append, List.length_cons, List.length_nil, List.length_map] <;> omega) only [hb, swp_seq, swp_reg, swp_skip, swp_cond, seqK_n, condK_f, evK_some, appK_eq, appC_eq, grd_t, srun_nil, srun_cons, stepK_grd, sk_mv, sk_give, sk_pick, sk_bin, sk_b2s, sk_nilc, sk_fld, sk_load, sk_store, sk_lenL, sk_slcL, get_mk, raw_slot, raw_lit, put_some, put_none, wb_nil, ev_mv, ev_give, ev_pick, ev_nilc, ev_fld, ev_lenL, bin_add, bin_sub, bin_eql, bin_neq, bin_lss, ev_ldP, ldP_some, stP_some, setOb_setOb, slcL_both_ro, ro_int, ro_bool, ro_ptr, ro_ro, flg, List.map_cons, List.map_nil, List.getD_cons_zero, List.getD_cons_succ, List.set_cons_zero, List.set_cons_succ, List.getElem?_cons_zero, List.getElem?_cons_succ, List.length_cons, List.length_nil, Nat.reduceAdd, Nat.reduceLT, Bool.false_eq_true, Option.map_some, ↓reduceIte, Nat.mul_one, Nat.zero_add, beq_self_eq_true, bne_self_eq_false, st_int, setOb_same, wrap_i64]
      have hA : ((p : Int) + n - n).toNat = p := by omega
      have hB : ((p : Int) + n).toNat = p + n := by omega
      have hC : ((p : Int) + n - ((p : Int) + n - n)).toNat = n := by omega
      have hlen : n = ((s.l.take (p + n)).drop p).length := by simp; omega
      rw [hA, hB, hC, bsv_take, bsv_drop, b2s_bsv, if_pos hlen]
      simp (maxSteps := 2000000) (disch := first | omega | simp only [List.length_append, List.length_cons, List.length_nil, List.length_map] <;> omega) only [swp_ret, seqK_n, evK_some, appK_eq, srun_nil, srun_cons, fin_ret, sk_give, get_mk, raw_slot, put_some, wb_nil, ev_give, ro_str, flg, List.map_cons, List.map_nil, List.getD_cons_zero, List.getD_cons_succ, List.set_cons_zero, List.set_cons_succ, true_and, Bool.false_eq_true, ↓reduceIte]
      exact ⟨_, .same, by simp⟩
def C24 : List SV → List Ob → SV → List Ob → Prop := fun args st r st' => ∃ s v id most, rdv v s.l ∧ s.l.length ≤ 1099511627776 ∧ s.p ≤ s.l.length ∧ st[id]? = some (.cells [v, .int .i64 s.p, .int .i64 s.e]) ∧ args = [.ptr id 0, .int .i64 most] ∧ r = .str (textF s most).1 ∧ st' = setOb st id [v, .int .i64 (textF s most).2.p, .int .i64 (textF s most).2.e]
def O6 : Orc := O5.add 63 C24
theorem s6 : Sound Tryd.prog O6 := s5.add c63 (by kernel_rfl) (by
  rintro args st r st' ⟨s, v, id, most, hv, hl, hp, h, rfl, rfl, rfl⟩
  exact ⟨by simp [sf63], f24 s id st most v hv hl hp h⟩)
end Go.Sh.W
namespace Go.Sh.W
open Go.Sh.F
open Go.Proofs
theorem f31 (O : Orc) (id : Nat) (st : List Ob) (v : SV) (p e : Int) (h : st[id]? = some (.cells [v, .int .i64 p, .int .i64 e])) : swpF O sf44 [.ptr id 0] st (fun r st' => r = .int .i64 e ∧ st' = st) := by
  simp only [sf44, h, swp_seq, swp_reg, swp_ret, seqK_n, evK_some, appK_eq, srun_nil, srun_cons, fin_ret, swpF_eq, sk_mv, sk_give, sk_nilc, sk_fld, sk_load, get_mk, raw_slot, raw_lit, put_some, wb_nil, ev_mv, ev_give, ev_nilc, ev_fld, ev_ldP, ldP_some, ro_int, ro_ptr, flg, List.map_cons, List.map_nil, List.getD_cons_zero, List.getD_cons_succ, List.set_cons_zero, List.set_cons_succ, List.getElem?_cons_zero, List.getElem?_cons_succ, List.length_cons, List.length_nil, List.replicate_succ, List.replicate_zero, List.cons_append, List.nil_append, Nat.reduceSub, true_and, Bool.false_eq_true, Option.map_some, ↓reduceIte, Nat.zero_add]
  exact ⟨_, .same, rfl⟩
def C31 : List SV → List Ob → SV → List Ob → Prop := fun args st r st' => ∃ v id p e, st[id]? = some (.cells [v, .int .i64 p, .int .i64 e]) ∧ args = [.ptr id 0] ∧ r = .int .i64 e ∧ st' = st
def O7 : Orc := O6.add 44 C31
def O8 : Orc := O7.add 0 (fun _ _ _ _ => False)
theorem s7 : Sound Tryd.prog O7 := s6.add c44 (by kernel_rfl) (by
  rintro args st r st' ⟨v, id, p, e, h, rfl, rfl, rfl⟩
  exact ⟨by simp [sf44], f31 _ id _ v p e h⟩)
theorem s8 : Sound Tryd.prog O8 := fun f a s r s2 h => h.elim (s7 f a s r s2) (fun k => k.2.elim)
def endF (s : RdS) : RdS := if s.p < s.l.length ∧ s.e = 0 then { s with e := 4 } else s
theorem f29 (s : RdS) (id : Nat) (st : List Ob) (v : SV) (hv : rdv v s.l) (h : st[id]? = some (.cells [v, .int .i64 s.p, .int .i64 s.e])) :
    swpF O8 sf45 [.ptr id 0] st (fun r st' => r = .int .i64 (endF s).e ∧ st' = setOb st id [v, .int .i64 (endF s).p, .int .i64 (endF s).e]) := by
  obtain ⟨l, p, e⟩ := s
  simp only at hv h
  have hlt := ob_lt h
  have hlen : (v = .nilS ∧ l = []) ∨ v = .sl (bsv l) l.length .ro := hv
  by_cases hp : p < l.length
  · have hv' : v = .sl (bsv l) l.length .ro := by
      rcases hlen with ⟨_, rfl⟩ | h'
      · simp at hp
      · exact h'
    subst hv'
    have hd : decide ((p : Int) < (l.length : Int)) = true := by simpa using hp
    have hf : O8 62 [.ptr id 0, .int .i64 4, .int .i64 p] st (.tup []) (setOb st id [.sl (bsv l) l.length .ro, .int .i64 (endF ⟨l, p, e⟩).p, .int .i64 (endF ⟨l, p, e⟩).e]) := by
      refine .inl (.inl (.inl (.inl (.inr ⟨rfl, _, p, e, 4, p, id, h, rfl, rfl, ?_⟩))))
      by_cases he : e = 0
      · simp [endF, hp, he]
      · rw [if_neg he]; simp only [endF, hp, he, and_false, if_false]; exact setOb_self h
    simp only [sf45, h, hd, swp_seq, swp_reg, swp_cond, seqK_n, condK_t, evK_some, appK_eq, srun_nil, srun_cons, stepK_call, swpF_eq, sk_mv, sk_give, sk_bin, sk_nilc, sk_fld, sk_load, sk_lenL, get_mk, raw_slot, raw_lit, put_some, wb_nil, ev_mv, ev_give, ev_nilc, ev_fld, ev_lenL, bin_lss, ev_ldP, ldP_some, ro_int, ro_ptr, ro_ro, got_int, got_ptr, flg, exc, pubs, pubsFrom, List.map_cons, List.map_nil, List.getD_cons_zero, List.getD_cons_succ, List.set_cons_zero, List.set_cons_succ, List.getElem?_cons_zero, List.getElem?_cons_succ, List.length_cons, List.length_nil, List.replicate_succ, List.replicate_zero, List.cons_append, List.nil_append, Nat.reduceSub, Bool.false_eq_true, Option.map_some, ↓reduceIte, Nat.zero_add]
    refine callK_intro hf ?_
    simp only [hlt, swp_seq, swp_reg, swp_ret, seqK_n, evK_some, appK_eq, appC_eq, srun_nil, srun_cons, fin_ret, sk_mv, sk_give, sk_nilc, sk_fld, sk_load, get_mk, raw_slot, put_some, wb_nil, ev_mv, ev_give, ev_nilc, ev_fld, ev_ldP, ldP_some, ro_int, ro_ptr, flg, List.map_cons, List.map_nil, List.getD_cons_zero, List.getD_cons_succ, List.set_cons_zero, List.set_cons_succ, List.getElem?_cons_zero, List.getElem?_cons_succ, true_and, Bool.false_eq_true, Option.map_some, ↓reduceIte, Nat.zero_add, setOb_same]
    exact ⟨_, .same, rfl⟩
  · have hE : endF ⟨l, p, e⟩ = ⟨l, p, e⟩ := by simp [endF, hp]
    rw [hE]
    rcases hlen with ⟨rfl, rfl⟩ | rfl
    · have hd : decide ((p : Int) < 0) = false := by simp
      simp only [sf45, h, hd, swp_seq, swp_reg, swp_skip, swp_ret, swp_cond, seqK_n, condK_f, evK_some, appK_eq, srun_nil, srun_cons, fin_ret, swpF_eq, sk_mv, sk_give, sk_bin, sk_nilc, sk_fld, sk_load, sk_lenL, get_mk, raw_slot, raw_lit, put_some, wb_nil, ev_mv, ev_give, ev_nilc, ev_fld, ev_lenN, bin_lss, ev_ldP, ldP_some, ro_int, ro_nilS, ro_ptr, flg, List.map_cons, List.map_nil, List.getD_cons_zero, List.getD_cons_succ, List.set_cons_zero, List.set_cons_succ, List.getElem?_cons_zero, List.getElem?_cons_succ, List.length_cons, List.length_nil, List.replicate_succ, List.replicate_zero, List.cons_append, List.nil_append, Nat.reduceSub, true_and, Bool.false_eq_true, Option.map_some, ↓reduceIte, Nat.zero_add]
      exact ⟨_, .same, (setOb_self h).symm⟩
    · have hd : decide ((p : Int) < (l.length : Int)) = false := by simpa using hp
      simp only [sf45, h, hd, swp_seq, swp_reg, swp_skip, swp_ret, swp_cond, seqK_n, condK_f, evK_some, appK_eq, srun_nil, srun_cons, fin_ret, swpF_eq, sk_mv, sk_give, sk_bin, sk_nilc, sk_fld, sk_load, sk_lenL, get_mk, raw_slot, raw_lit, put_some, wb_nil, ev_mv, ev_give, ev_nilc, ev_fld, ev_lenL, bin_lss, ev_ldP, ldP_some, ro_int, ro_ptr, ro_ro, flg, List.map_cons, List.map_nil, List.getD_cons_zero, List.getD_cons_succ, List.set_cons_zero, List.set_cons_succ, List.getElem?_cons_zero, List.getElem?_cons_succ, List.length_cons, List.length_nil, List.replicate_succ, List.replicate_zero, List.cons_append, List.nil_append, Nat.reduceSub, true_and, Bool.false_eq_true, Option.map_some, ↓reduceIte, Nat.zero_add]
      exact ⟨_, .same, (setOb_self h).symm⟩
def C29 : List SV → List Ob → SV → List Ob → Prop := fun args st r st' => ∃ s v id, rdv v s.l ∧ st[id]? = some (.cells [v, .int .i64 s.p, .int .i64 s.e]) ∧ args = [.ptr id 0] ∧ r = .int .i64 (endF s).e ∧ st' = setOb st id [v, .int .i64 (endF s).p, .int .i64 (endF s).e]
def O9 : Orc := O8.add 45 C29
theorem s9 : Sound Tryd.prog O9 := s8.add c45 (by kernel_rfl) (by
  rintro args st r st' ⟨s, v, id, hv, h, rfl, rfl, rfl⟩
  exact ⟨by simp [sf45], f29 s id _ v hv h⟩)
end Go.Sh.W
namespace Go.Sh.W
open Go.Sh.F
open Go.Proofs
def rdW : SV → SV | .sl xs n _ => .sl xs n .ro | v => v
theorem f21 (v : SV) (l : List UInt8) (hv : isBs v l) (hl : l.length ≤ 1099511627776) (st : List Ob) : swpF O9 sf40 [v] st (fun r st' => r = .ptr st.length 0 ∧ st' = st ++ [.cells [rdW v, .int .i64 0, .int .i64 0]]) := by
  have old : ∀ {args r st'}, C33 args st r st' → O9 61 args st r st' := fun h => .inl (.inl (.inl (.inl (.inl (.inl (.inl (.inl (.inr ⟨rfl, h⟩))))))))
  rcases hv with ⟨rfl, rfl⟩ | ⟨f, hf, rfl⟩
  · simp only [sf40, swp_seq, swp_reg, seqK_n, evK_some, appK_eq, srun_nil, srun_cons, stepK_call, swpF_eq, sk_mv, sk_give, get_mk, raw_slot, raw_lit, put_some, wb_nil, ev_mv, ev_give, ro_nilS, ro_nilP, got_nilS, flg, exc, pubs, pubsFrom, List.map_cons, List.map_nil, List.getD_cons_zero, List.set_cons_zero, List.set_cons_succ, List.length_cons, List.length_nil, List.replicate_succ, List.replicate_zero, List.cons_append, List.nil_append, Nat.reduceSub, Bool.false_eq_true, ↓reduceIte, Nat.zero_add]
    refine callK_intro (old ⟨rfl, .inl ⟨rfl, rfl⟩⟩) ?_
    simp only [swp_ret, seqK_n, evK_some, appK_eq, appC_eq, srun_nil, srun_cons, fin_ret, sk_give, sk_bld, sk_box, get_mk, raw_slot, put_some, wb_nil, ev_give, ev_bld, ev_box, ro_ptr, ro1_int, ro1_nilS, got_nilS, got_agg, flg, exc, pubs, pubsFrom, List.map_cons, List.map_nil, List.getD_cons_zero, List.getD_cons_succ, List.set_cons_zero, List.set_cons_succ, List.length_cons, List.length_nil, Nat.reduceAdd, Nat.reduceLeDiff, true_and, and_true, Bool.false_eq_true, Option.map_some, ↓reduceIte, List.all_cons, List.all_nil, Bool.and_self, List.zip_cons_cons, List.zip_nil_right, fillV, wrCells, cellsV, isCell, Nat.zero_add]
    exact ⟨_, .same, rfl⟩
  · rcases hf with rfl | rfl
    · simp only [sf40, swp_seq, swp_reg, seqK_n, evK_some, appK_eq, srun_nil, srun_cons, stepK_call, swpF_eq, sk_mv, sk_give, get_mk, raw_slot, raw_lit, put_some, wb_nil, ev_mv, ev_give, ro_nilP, ro_ro, got_roo, flg, exc, pubs, pubsFrom, List.map_cons, List.map_nil, List.getD_cons_zero, List.set_cons_zero, List.set_cons_succ, List.length_cons, List.length_nil, List.replicate_succ, List.replicate_zero, List.cons_append, List.nil_append, Nat.reduceSub, Bool.false_eq_true, ↓reduceIte, Nat.zero_add]
      refine callK_intro (old ⟨rfl, .inr ⟨bsv l, l.length, .ro, .inl rfl, bsv_len l, hl, rfl, rfl⟩⟩) ?_
      simp only [swp_ret, seqK_n, evK_some, appK_eq, appC_eq, srun_nil, srun_cons, fin_ret, sk_give, sk_bld, sk_box, get_mk, raw_slot, put_some, wb_nil, wb_cons, ev_give, ev_bld, ev_box, ro_ptr, ro1_int, ro1_ro, got_excl, got_agg, pub_excl, flg, exc, pubs, pubsFrom, List.map_cons, List.map_nil, List.getD_cons_zero, List.getD_cons_succ, List.set_cons_zero, List.set_cons_succ, List.getElem?_cons_zero, List.length_cons, List.length_nil, Nat.reduceAdd, Nat.reduceLeDiff, true_and, and_true, Bool.false_eq_true, Option.map_some, ↓reduceIte, List.all_cons, List.all_nil, Bool.and_self, List.zip_cons_cons, List.zip_nil_right, fillV, wrCells, cellsV, isCell, Nat.zero_add]
      exact ⟨_, .same, rfl⟩
    · simp only [sf40, swp_seq, swp_reg, seqK_n, evK_some, appK_eq, srun_nil, srun_cons, stepK_call, swpF_eq, sk_mv, sk_give, get_mk, raw_slot, raw_lit, put_some, wb_nil, ev_mv, ev_give, ro_nilP, ro_full, got_full, flg, exc, pubs, pubsFrom, List.map_cons, List.map_nil, List.getD_cons_zero, List.set_cons_zero, List.set_cons_succ, List.length_cons, List.length_nil, List.replicate_succ, List.replicate_zero, List.cons_append, List.nil_append, Nat.reduceSub, Bool.false_eq_true, ↓reduceIte, Nat.zero_add]
      refine callK_intro (old ⟨rfl, .inr ⟨bsv l, l.length, .full, .inr rfl, bsv_len l, hl, rfl, rfl⟩⟩) ?_
      simp only [swp_ret, seqK_n, evK_some, appK_eq, appC_eq, srun_nil, srun_cons, fin_ret, sk_give, sk_bld, sk_box, get_mk, raw_slot, put_some, wb_nil, wb_cons, ev_give, ev_bld, ev_box, ro_ptr, ro1_int, ro1_ro, got_excl, got_agg, pub_excl, flg, exc, pubs, pubsFrom, List.map_cons, List.map_nil, List.getD_cons_zero, List.getD_cons_succ, List.set_cons_zero, List.set_cons_succ, List.getElem?_cons_zero, List.length_cons, List.length_nil, Nat.reduceAdd, Nat.reduceLeDiff, true_and, and_true, Bool.false_eq_true, Option.map_some, ↓reduceIte, List.all_cons, List.all_nil, Bool.and_self, List.zip_cons_cons, List.zip_nil_right, fillV, wrCells, cellsV, isCell, Nat.zero_add]
      exact ⟨_, .same, rfl⟩
def C21 : List SV → List Ob → SV → List Ob → Prop := fun args st r st' => ∃ v l, isBs v l ∧ l.length ≤ 1099511627776 ∧ args = [v] ∧ r = .ptr st.length 0 ∧ st' = st ++ [.cells [rdW v, .int .i64 0, .int .i64 0]]
def O10 : Orc := O9.add 40 C21
theorem s10 : Sound Tryd.prog O10 := s9.add c40 (by kernel_rfl) (by
  rintro args st r st' ⟨v, l, hv, hl, rfl, rfl, rfl⟩
  exact ⟨by simp [sf40], f21 v l hv hl st⟩)
def O11 : Orc := O10.add 0 (fun _ _ _ _ => False)
theorem s11 : Sound Tryd.prog O11 := fun f a s r s2 h => h.elim (s10 f a s r s2) (fun k => k.2.elim)
def ssv (l : List (List UInt8)) : List SV := l.map .str
theorem ssv_len (l : List (List UInt8)) : (ssv l).length = l.length := by simp [ssv]
end Go.Sh.W
namespace Go.Sh.W
open Go.Sh.F
open Go.Proofs
def O12 : Orc := O11.add 0 (fun _ _ _ _ => False)
theorem s12 : Sound Tryd.prog O12 := fun f a s r s2 h => h.elim (s11 f a s r s2) (fun k => k.2.elim)
def O13 : Orc := O12.add 0 (fun _ _ _ _ => False)
theorem s13 : Sound Tryd.prog O13 := fun f a s r s2 h => h.elim (s12 f a s r s2) (fun k => k.2.elim)
def O14 : Orc := O13.add 0 (fun _ _ _ _ => False)
theorem s14 : Sound Tryd.prog O14 := fun f a s r s2 h => h.elim (s13 f a s r s2) (fun k => k.2.elim)
def O15 : Orc := O14.add 0 (fun _ _ _ _ => False)
theorem s15 : Sound Tryd.prog O15 := fun f a s r s2 h => h.elim (s14 f a s r s2) (fun k => k.2.elim)
def O16 : Orc := O15.add 0 (fun _ _ _ _ => False)
theorem s16 : Sound Tryd.prog O16 := fun f a s r s2 h => h.elim (s15 f a s r s2) (fun k => k.2.elim)
theorem textF_spec (s : RdS) (most : Int) (hp : s.p ≤ s.l.length) : ∃ (x : List UInt8) (p : Nat) (e : Int), textF s most = (x, ⟨s.l, p, e⟩) ∧ p ≤ s.l.length ∧ x.length ≤ s.l.length := by
  unfold textF
  obtain ⟨n, p, e, hn, h1, h2⟩ := numF_spec s (minI most 16384) hp
  rw [hn]
  simp only
  split
  · exact ⟨_, _, _, rfl, h2, by simp⟩
  · split
    · exact ⟨_, _, _, rfl, hp, by simp⟩
    · refine ⟨_, _, _, rfl, ?_, ?_⟩
      · simp; omega
      · simp; omega
theorem rdv_facts {v : SV} {l : List UInt8} (h : rdv v l) : ro v = v ∧ got v = v ∧ exc v = false ∧ flg v = false := by
  rcases h with ⟨rfl, _⟩ | rfl <;> exact ⟨rfl, rfl, rfl, rfl⟩
theorem rdv_isBs {v : SV} {l : List UInt8} (h : rdv v l) : isBs v l := by
  rcases h with h | rfl
  · exact .inl h
  · exact .inr ⟨_, .inl rfl, rfl⟩
theorem be4_num4 {m : List UInt8} (h : m.length = 4) : be4 (num4 m) = m := by
  match m, h with
  | [a, b, c, d], _ =>
    have ha := a.toNat_lt
    have hb := b.toNat_lt
    have hc := c.toNat_lt
    have hd := d.toNat_lt
    have e : ∀ (x : UInt8) (k : Nat), k % 256 = x.toNat → UInt8.ofNat k = x := by
      intro x k h
      rw [← UInt8.toNat_inj]
      simp only [UInt8.toNat_ofNat']
      exact h
    simp only [num4, be4, List.foldl_cons, List.foldl_nil]
    rw [e a _ (by omega), e b _ (by omega), e c _ (by omega), e d _ (by omega)]
theorem take_at (l : List UInt8) (p k : Nat) : (l.take (p + k)).drop p = (l.drop p).take k := by
  rw [List.drop_take]; congr 1; omega
theorem numF_err {s : RdS} {most : Int} (h : s.e ≠ 0) : numF s most = (0, s) := by unfold numF; rw [if_pos h]
theorem textF_err {s : RdS} {most : Int} (h : s.e ≠ 0) : textF s most = ([], s) := by
  unfold textF
  rw [numF_err h]
  simp only
  rw [if_pos h]
theorem endF_err {s : RdS} (h : s.e ≠ 0) : endF s = s := by
  unfold endF
  rw [if_neg (fun hh => h hh.2)]
theorem numR {l : List UInt8} {p : Nat} {most : Int} (hp : p ≤ l.length) (h0 : (numF ⟨l, p, 0⟩ most).2.e = 0) :
    ∃ k : Nat, numF ⟨l, p, 0⟩ most = ((k : Int), (⟨l, p + 4, 0⟩ : RdS)) ∧ k ≤ 4294967295 ∧ (k : Int) ≤ most ∧ p + 4 ≤ l.length ∧ l.take (p + 4) = l.take p ++ be4 k := by
  unfold numF at h0 ⊢
  simp only [ne_eq, not_true_eq_false, if_false] at h0 ⊢
  split at h0
  · simp at h0
  · rename_i h1
    split at h0
    · simp at h0
    · rename_i h2
      rw [if_neg h1, if_neg h2]
      have h4 : ((l.take (p + 4)).drop p).length = 4 := by simp; omega
      have := num4_lt _ h4
      refine ⟨_, rfl, by omega, by omega, by omega, ?_⟩
      rw [be4_num4 h4, take_at, List.take_add]
theorem numF_spec2 (l : List UInt8) (p : Nat) (e most : Int) (hp : p ≤ l.length) : ∃ (k p' : Nat) (e' : Int), numF ⟨l, p, e⟩ most = ((k : Int), ⟨l, p', e'⟩) ∧ p' ≤ l.length ∧ (e ≠ 0 → e' = e ∧ p' = p) ∧ (e = 0 → e' = 0 → p' = p + 4 ∧ k ≤ 4294967295 ∧ (k : Int) ≤ most ∧ l.take p' = l.take p ++ be4 k) := by
  obtain ⟨k, p', e', h1, _, h2⟩ := numF_spec ⟨l, p, e⟩ most hp
  refine ⟨k, p', e', h1, h2, fun he => ?_, fun he he' => ?_⟩
  · rw [numF_err he] at h1
    simp only [Prod.mk.injEq, RdS.mk.injEq] at h1
    exact ⟨h1.2.2.2.symm, h1.2.2.1.symm⟩
  · subst he he'
    obtain ⟨k', i1, i2, i3, i4, i5⟩ := numR (most := most) hp (by rw [h1])
    rw [i1] at h1
    simp only [Prod.mk.injEq, RdS.mk.injEq, true_and, and_true, Int.natCast_inj] at h1
    obtain ⟨rfl, rfl⟩ := h1
    exact ⟨rfl, i2, i3, i5⟩
def O17 : Orc := O16.add 0 (fun _ _ _ _ => False)
theorem s17 : Sound Tryd.prog O17 := fun f a s r s2 h => h.elim (s16 f a s r s2) (fun k => k.2.elim)
def O18 : Orc := O17.add 0 (fun _ _ _ _ => False)
theorem s18 : Sound Tryd.prog O18 := fun f a s r s2 h => h.elim (s17 f a s r s2) (fun k => k.2.elim)
set_option maxHeartbeats 1000000 in
def O19 : Orc := O18.add 0 (fun _ _ _ _ => False)
theorem s19 : Sound Tryd.prog O19 := fun f a s r s2 h => h.elim (s18 f a s r s2) (fun k => k.2.elim)
def O20 : Orc := O19.add 0 (fun _ _ _ _ => False)
theorem s20 : Sound Tryd.prog O20 := fun f a s r s2 h => h.elim (s19 f a s r s2) (fun k => k.2.elim)
end Go.Sh.W
namespace Go.Sh.W
open Go.Sh.F
open Go.Proofs
theorem bsv_at (l : List UInt8) (i : Nat) (b : UInt8) (h : l[i]? = some b) : (bsv l)[i]? = some (.int .u8 b.toNat) := by simp [bsv, h]
theorem four_at {l : List UInt8} {n : Nat} {b0 b1 b2 b3 : UInt8} (h : (l.take (n + 4)).drop n = [b0, b1, b2, b3]) : l[n]? = some b0 ∧ l[n + 1]? = some b1 ∧ l[n + 2]? = some b2 ∧ l[n + 3]? = some b3 := by
  have key : ∀ i, i < 4 → l[n + i]? = ([b0, b1, b2, b3] : List UInt8)[i]? := by
    intro i hi
    rw [← h, List.getElem?_drop, List.getElem?_take_of_lt (by omega)]
  exact ⟨key 0 (by omega), key 1 (by omega), key 2 (by omega), key 3 (by omega)⟩
set_option maxHeartbeats 2000000 in
theorem k46 (O : Orc) (v : SV) (l : List UInt8) (p : Nat) (most : Int) (st : List Ob) (hv : rdv v l) (hl : l.length ≤ 1099511627776) (hp : p ≤ l.length) :
    swpF O sf64 [v, .int .i64 p, .int .i64 most] st (fun r st' => r = .tup [.int .i64 (numF ⟨l, p, 0⟩ most).1, .int .i64 (numF ⟨l, p, 0⟩ most).2.p, .int .i64 (numF ⟨l, p, 0⟩ most).2.e] ∧ st' = st) := by
  obtain ⟨hro, hgot, hexc, hflg, hla⟩ := rdL_facts (f := fun x : UInt8 => .int .u8 x.toNat) hv
  by_cases h4 : p + 4 ≤ l.length
  case neg =>
    have hr : numF ⟨l, p, 0⟩ most = (0, ⟨l, p, 4⟩) := by
      have : l.length < p + 4 := by omega
      simp [numF, this]
    rw [hr]
    have hd : decide ((l.length : Int) - p < 4) = true := by simp; omega
    simp (maxSteps := 2000000) (disch := first | omega | simp only [List.length_append, List.length_cons, List.length_nil, List.length_map] <;> omega) only [sf64, hd, hro, hla, flg_int, swp_seq, swp_reg, swp_ret, swp_cond, seqK_n, seqK_r, condK_t, evK_some, appK_eq, srun_nil, srun_cons, fin_three, swpF_eq, sk_mv, sk_give, sk_bin, sk_lenL, get_mk, raw_slot, raw_lit, put_some, wb_nil, ev_mv, ev_give, bin_sub, bin_lss, ro_int, List.map_cons, List.map_nil, List.getD_cons_zero, List.getD_cons_succ, List.set_cons_zero, List.set_cons_succ, List.length_cons, List.length_nil, List.replicate_succ, List.replicate_zero, List.cons_append, List.nil_append, Nat.reduceAdd, Nat.reduceSub, true_and, Bool.false_eq_true, ↓reduceIte, Nat.zero_add, wrap_i64]
    exact ⟨_, .same, rfl⟩
  have hv : v = .sl (bsv l) l.length .ro := by
    rcases hv with ⟨_, rfl⟩ | hv
    · simp at h4
    · exact hv
  subst hv
  obtain ⟨b0, b1, b2, b3, hb⟩ := four h4
  obtain ⟨a0, a1, a2, a3⟩ := four_at hb
  have a0 := bsv_at _ _ _ a0
  have a1 := bsv_at _ _ _ a1
  have a2 := bsv_at _ _ _ a2
  have a3 := bsv_at _ _ _ a3
  have l0 := b0.toNat_lt
  have l1 := b1.toNat_lt
  have l2 := b2.toNat_lt
  have l3 := b3.toNat_lt
  have hn1 : ¬ l.length < p + 4 := by omega
  have hr : numF ⟨l, p, 0⟩ most = if most < ((num4 [b0, b1, b2, b3] : Nat) : Int) then ((0 : Int), (⟨l, p, 5⟩ : RdS)) else (((num4 [b0, b1, b2, b3] : Nat) : Int), (⟨l, p + 4, 0⟩ : RdS)) := by
    simp only [numF, hn1, hb, ne_eq, not_true_eq_false, if_false]
  have hnum : num4 [b0, b1, b2, b3] = ((b0.toNat * 256 + b1.toNat) * 256 + b2.toNat) * 256 + b3.toNat := by simp [num4]
  rw [hr, hnum]
  clear hr hnum
  have hc : ∀ c : UInt8, IntKind.i64.wrap (c.toNat : Int) = c.toNat := fun c => by have := c.toNat_lt; exact wrap_i64 (by omega) (by omega)
  have hbl := bsv_len l
  obtain ⟨n, hn⟩ : ∃ n, n = ((b0.toNat * 256 + b1.toNat) * 256 + b2.toNat) * 256 + b3.toNat := ⟨_, rfl⟩
  rw [← hn]
  have hd : decide ((l.length : Int) - p < 4) = false := by simp; omega
  have t0 : ((p : Int) + 0).toNat = p := by omega
  have t1 : ((p : Int) + 1).toNat = p + 1 := by omega
  have t2 : ((p : Int) + 2).toNat = p + 2 := by omega
  have t3 : ((p : Int) + 3).toNat = p + 3 := by omega
  clear hro hgot hexc hflg
  simp (maxSteps := 2000000) (disch := first | omega | simp only [List.length_append, List.length_cons, List.length_nil, List.length_map] <;> omega) only [sf64, hd, hla, flg_int, exc_int, swp_seq, swp_reg, swp_skip, swp_block, swp_cond, seqK_n, condK_f, evK_some, appK_eq, srun_nil, srun_cons, swpF_eq, sk_mv, sk_take, sk_give, sk_bin, sk_lenL, get_mk, raw_slot, raw_lit, put_some, wb_nil, ev_mv, ev_take, ev_give, bin_sub, bin_lss, ro_int, ro_ro, got_int, List.map_cons, List.map_nil, List.getD_cons_zero, List.getD_cons_succ, List.set_cons_zero, List.set_cons_succ, List.length_cons, List.length_nil, List.replicate_succ, List.replicate_zero, List.cons_append, List.nil_append, Nat.reduceAdd, Nat.reduceSub, Bool.false_eq_true, ↓reduceIte, Nat.zero_add, wrap_i64]
  refine swp_unroll 5 ?_
  simp (maxSteps := 2000000) (disch := first | omega | simp only [List.length_append, List.length_cons, List.length_nil, List.length_map] <;> omega) only [hc, t0, t1, t2, t3, a0, a1, a2, a3, flg_int, sk_idxB, idxB_ro, swp_seq, swp_reg, swp_skip, swp_exit, swp_block, swp_cond, seqK_n, seqK_e, blkK_n, blkK_e, condK_t, condK_f, evK_some, appK_eq, srun_nil, srun_cons, sk_mv, sk_give, sk_bin, sk_cvI, sk_load, get_mk, raw_slot, raw_lit, put_some, wb_nil, ev_mv, ev_give, ev_cvI, bin_add, bin_mul, bin_lss, bin_gtr, unr_succ, unrK_n, unrK_e, ev_loadE, ro_int, ro_ro, List.map_cons, List.map_nil, List.getD_cons_zero, List.getD_cons_succ, List.set_cons_zero, List.set_cons_succ, Bool.false_eq_true, Option.map_some, ↓reduceIte, decide_true, decide_false, Nat.mul_one, gt_iff_lt, Int.zero_mul, Int.reduceLT, Int.reduceAdd, wrap_i64]
  rw [show (((0 + (b0.toNat : Int)) * 256 + b1.toNat) * 256 + b2.toNat) * 256 + b3.toNat = (n : Int) by omega]
  by_cases hm : most < (n : Int)
  · have d1 : decide (most < (n : Int)) = true := by simp [hm]
    rw [if_pos hm]
    simp (maxSteps := 2000000) (disch := first | omega | simp only [List.length_append, List.length_cons, List.length_nil, List.length_map] <;> omega) only [d1, flg_int, swp_seq, swp_reg, swp_ret, seqK_n, seqK_r, condK_t, evK_some, appK_eq, srun_nil, srun_cons, fin_three, sk_mv, sk_give, get_mk, raw_slot, raw_lit, put_some, wb_nil, ev_mv, ev_give, ro_int, List.map_cons, List.map_nil, List.getD_cons_zero, List.getD_cons_succ, List.set_cons_zero, List.set_cons_succ, true_and, Bool.false_eq_true, ↓reduceIte]
    exact ⟨_, .same, rfl⟩
  · have d1 : decide (most < (n : Int)) = false := by simp; omega
    rw [if_neg hm]
    simp (maxSteps := 2000000) (disch := first | omega | simp only [List.length_append, List.length_cons, List.length_nil, List.length_map] <;> omega) only [d1, flg_int, swp_seq, swp_reg, swp_skip, swp_ret, seqK_n, condK_f, evK_some, appK_eq, srun_nil, srun_cons, fin_three, sk_mv, sk_give, sk_bin, get_mk, raw_slot, raw_lit, put_some, wb_nil, ev_mv, ev_give, bin_add, ro_int, List.map_cons, List.map_nil, List.getD_cons_zero, List.getD_cons_succ, List.set_cons_zero, List.set_cons_succ, Bool.false_eq_true, ↓reduceIte, wrap_i64]
    exact ⟨_, .same, by simp, rfl⟩
def numT (s : RdS) (most : Int) : SV := .tup [.int .i64 (numF s most).1, .int .i64 (numF s most).2.p, .int .i64 (numF s most).2.e]
def K46 : List SV → List Ob → SV → List Ob → Prop := fun args st r st' => st' = st ∧ ∃ v l p most, rdv v l ∧ l.length ≤ 1099511627776 ∧ p ≤ l.length ∧ args = [v, .int .i64 (p : Nat), .int .i64 most] ∧ r = numT ⟨l, p, 0⟩ most
def O21 : Orc := O20.add 64 K46
theorem s21 : Sound Tryd.prog O21 := s20.add c64 (by kernel_rfl) (by
  rintro args st r st' ⟨rfl, v, l, p, most, hv, hl, hp, rfl, rfl⟩
  exact ⟨by simp [sf64], k46 _ v l p most _ hv hl hp⟩)
theorem o46 {v : SV} {l : List UInt8} {p k p' : Nat} {e' most : Int} {st : List Ob} (hv : rdv v l) (hl : l.length ≤ 1099511627776) (hp : p ≤ l.length) (hn : numF ⟨l, p, 0⟩ most = ((k : Int), ⟨l, p', e'⟩)) : O21 64 [v, .int .i64 p, .int .i64 most] st (.tup [.int .i64 k, .int .i64 p', .int .i64 e']) st :=
  .inr ⟨rfl, rfl, v, l, p, most, hv, hl, hp, rfl, by rw [numT, hn]⟩
set_option maxHeartbeats 2000000 in
theorem k47 (v : SV) (l : List UInt8) (p : Nat) (most : Int) (st : List Ob) (hv : rdv v l) (hl : l.length ≤ 1099511627776) (hp : p ≤ l.length) :
    swpF O21 sf65 [v, .int .i64 p, .int .i64 most] st (fun r st' => r = .tup [.str (textF ⟨l, p, 0⟩ most).1, .int .i64 (textF ⟨l, p, 0⟩ most).2.p, .int .i64 (textF ⟨l, p, 0⟩ most).2.e] ∧ st' = st) := by
  obtain ⟨hro, hgot, hexc, hflg, hla⟩ := rdL_facts (f := fun x : UInt8 => .int .u8 x.toNat) hv
  have hm : (if (16384 : Int) < most then 16384 else most) = minI most 16384 := rfl
  obtain ⟨k, p', e', n1, n2, n3, n4⟩ := numF_spec2 l p 0 (minI most 16384) hp
  have c46 := o46 (st := st) hv hl hp n1
  have hT : textF ⟨l, p, 0⟩ most = if e' ≠ 0 then ([], ⟨l, p', e'⟩) else if (l.length : Int) - p' < k then ([], ⟨l, p, 4⟩) else ((l.take (p' + k)).drop p', ⟨l, p' + k, e'⟩) := by
    unfold textF; rw [n1]; simp
  rw [hT]
  simp (maxSteps := 2000000) (disch := first | omega | simp only [List.length_append, List.length_cons, List.length_nil, List.length_map] <;> omega) only [sf65, hm, hro, hgot, hexc, flg_int, flg_str, exc_int, swp_seq, swp_reg, seqK_n, evK_some, appK_eq, srun_nil, srun_cons, stepK_call, swpF_eq, sk_mv, sk_give, sk_min, get_mk, raw_slot, raw_lit, put_some, wb_nil, ev_mv, ev_give, ev_min, ro_int, ro_str, got_int, pubs, pubsFrom, List.map_cons, List.map_nil, List.getD_cons_zero, List.getD_cons_succ, List.set_cons_zero, List.set_cons_succ, List.length_cons, List.length_nil, List.replicate_succ, List.replicate_zero, List.cons_append, List.nil_append, Nat.reduceAdd, Nat.reduceSub, Bool.false_eq_true, ↓reduceIte, Nat.zero_add, ne_eq]
  refine callK_intro c46 ?_
  by_cases he : e' = 0
  case neg =>
    have hb : (e' != 0) = true := by simpa using he
    have hp' : p' = p := by
      unfold numF at n1
      rw [if_neg (by simp)] at n1
      split at n1
      · exact ((RdS.mk.inj (Prod.mk.inj n1).2).2.1).symm
      · split at n1
        · exact ((RdS.mk.inj (Prod.mk.inj n1).2).2.1).symm
        · exact absurd ((RdS.mk.inj (Prod.mk.inj n1).2).2.2).symm he
    subst hp'
    rw [if_pos he]
    simp (maxSteps := 2000000) (disch := first | omega | simp only [List.length_append, List.length_cons, List.length_nil, List.length_map] <;> omega) only [hb, flg_int, flg_str, swp_seq, swp_reg, swp_ret, swp_cond, seqK_n, seqK_r, condK_t, evK_some, appK_eq, appC_eq, srun_nil, srun_cons, fin_three, sk_mv, sk_give, sk_bin, sk_ext, get_mk, raw_slot, raw_lit, put_some, wb_nil, ev_mv, ev_give, ev_ext, bin_neq, ro_int, ro_str, ro_tup, ro2_int, List.map_cons, List.map_nil, List.getD_cons_zero, List.getD_cons_succ, List.set_cons_zero, List.set_cons_succ, List.getElem?_cons_zero, List.getElem?_cons_succ, true_and, Bool.false_eq_true, Option.map_some, ↓reduceIte]
    exact ⟨_, .same, rfl⟩
  subst he
  obtain ⟨q1, q2, q3, q4⟩ := n4 rfl rfl
  rw [if_neg (by simp)]
  by_cases hk : (l.length : Int) - p' < k
  · have hd : decide ((l.length : Int) - p' < k) = true := by simp [hk]
    rw [if_pos hk]
    simp (maxSteps := 2000000) (disch := first | omega | simp only [List.length_append, List.length_cons, List.length_nil, List.length_map] <;> omega) only [hd, hro, hla, flg_int, flg_str, swp_seq, swp_reg, swp_skip, swp_ret, swp_cond, seqK_n, seqK_r, condK_t, condK_f, evK_some, appK_eq, appC_eq, srun_nil, srun_cons, fin_three, sk_mv, sk_give, sk_bin, sk_lenL, sk_ext, get_mk, raw_slot, raw_lit, put_some, wb_nil, ev_mv, ev_give, ev_ext, bin_sub, bin_neq, bin_lss, ro_int, ro_str, ro_tup, ro2_int, List.map_cons, List.map_nil, List.getD_cons_zero, List.getD_cons_succ, List.set_cons_zero, List.set_cons_succ, List.getElem?_cons_zero, List.getElem?_cons_succ, true_and, Bool.false_eq_true, Option.map_some, ↓reduceIte, bne_self_eq_false, wrap_i64]
    exact ⟨_, .same, rfl⟩
  · have hd : decide ((l.length : Int) - p' < k) = false := by simp; omega
    rw [if_neg hk]
    have hb2 : ∃ f, ev st (.slcL 1 true true false) [v, .int .i64 p', .int .i64 ((p' : Int) + k)] = some (f, [], st) ∧ ev st .b2s [f] = some (.str ((l.take (p' + k)).drop p'), [], st) ∧ got f = f ∧ ro f = f ∧ exc f = false ∧ flg f = false := by
      rcases hv with ⟨rfl, rfl⟩ | rfl
      · simp only [List.length_nil] at n2 hk
        have h0 : p' = 0 := by omega
        have h1 : k = 0 := by omega
        subst h0 h1
        exact ⟨_, slcL_nil_both, ev_b2sN, rfl, rfl, rfl, rfl⟩
      · have e1 : ((p' : Int) + k - p').toNat = k := by omega
        have e2 : ((p' : Int) + k).toNat * 1 = p' + k := by omega
        have e3 : ((p' : Int)).toNat * 1 = p' := by omega
        refine ⟨_, slcL_both_ro (by omega) (by omega) (by omega) (by simp [bsv]), ?_, rfl, rfl, rfl, rfl⟩
        rw [e1, e2, e3, bsv_take, bsv_drop, b2s_bsv, if_pos]
        simp; omega
    obtain ⟨f, hf1, hf2, f3, f4, f5, f6⟩ := hb2
    simp (maxSteps := 2000000) (disch := first | omega | simp only [List.length_append, List.length_cons, List.length_nil, List.length_map] <;> omega) only [hd, hro, hla, hf1, hf2, flg_int, flg_str, swp_seq, swp_reg, swp_skip, swp_ret, swp_cond, seqK_n, condK_f, evK_some, appK_eq, appC_eq, srun_nil, srun_cons, fin_three, sk_mv, sk_give, sk_bin, sk_b2s, sk_lenL, sk_slcL, sk_ext, get_mk, raw_slot, raw_lit, put_some, wb_nil, ev_mv, ev_give, ev_ext, bin_add, bin_sub, bin_neq, bin_lss, ro_int, ro_str, ro_tup, ro2_int, List.map_cons, List.map_nil, List.getD_cons_zero, List.getD_cons_succ, List.set_cons_zero, List.set_cons_succ, List.getElem?_cons_zero, List.getElem?_cons_succ, Bool.false_eq_true, Option.map_some, ↓reduceIte, bne_self_eq_false, wrap_i64]
    exact ⟨_, .same, by simp, rfl⟩
def K47 : List SV → List Ob → SV → List Ob → Prop := fun args st r st' => st' = st ∧ ∃ v l p most, rdv v l ∧ l.length ≤ 1099511627776 ∧ p ≤ l.length ∧ args = [v, .int .i64 (p : Nat), .int .i64 most] ∧ r = .tup [.str (textF ⟨l, p, 0⟩ most).1, .int .i64 (textF ⟨l, p, 0⟩ most).2.p, .int .i64 (textF ⟨l, p, 0⟩ most).2.e]
def O22 : Orc := O21.add 65 K47
theorem s22 : Sound Tryd.prog O22 := s21.add c65 (by kernel_rfl) (by
  rintro args st r st' ⟨rfl, v, l, p, most, hv, hl, hp, rfl, rfl⟩
  exact ⟨by simp [sf65], k47 v l p most _ hv hl hp⟩)
end Go.Sh.W
namespace Go.Sh.W
open Go.Sh.F
open Go.Proofs
set_option maxHeartbeats 4000000 in
theorem k24 (l : List UInt8) (p : Nat) (e : Int) (id : Nat) (st : List Ob) (most : Int) (v : SV) (hv : rdv v l) (hl : l.length ≤ 1099511627776) (hp : p ≤ l.length) (h : st[id]? = some (.cells [v, .int .i64 p, .int .i64 e])) :
    swpF O22 sf46 [.ptr id 0, .int .i64 most] st (fun r st' => r = .int .i64 (numF ⟨l, p, e⟩ most).1 ∧ st' = setOb st id [v, .int .i64 (numF ⟨l, p, e⟩ most).2.p, .int .i64 (numF ⟨l, p, e⟩ most).2.e]) := by
  obtain ⟨hro, hgot, hexc, hflg, hla⟩ := rdL_facts (f := fun x : UInt8 => .int .u8 x.toNat) hv
  have hlt := ob_lt h
  by_cases he : e = 0
  case neg =>
    have hb : (e != 0) = true := by simpa using he
    simp (maxSteps := 2000000) (disch := first | omega | simp only [List.length_append, List.length_cons, List.length_nil, List.length_map] <;> omega) only [sf46, h, hb, flg_int, swp_seq, swp_reg, swp_ret, swp_cond, seqK_n, seqK_r, condK_t, evK_some, appK_eq, srun_nil, srun_cons, fin_ret, swpF_eq, sk_mv, sk_give, sk_bin, sk_nilc, sk_fld, sk_load, get_mk, raw_slot, raw_lit, put_some, wb_nil, ev_mv, ev_give, ev_nilc, ev_fld, bin_neq, ev_ldP, ldP_some, ro_int, ro_ptr, List.map_cons, List.map_nil, List.getD_cons_zero, List.getD_cons_succ, List.set_cons_zero, List.set_cons_succ, List.getElem?_cons_zero, List.getElem?_cons_succ, List.length_cons, List.length_nil, List.replicate_succ, List.replicate_zero, List.cons_append, List.nil_append, Nat.reduceAdd, Nat.reduceSub, Bool.false_eq_true, Option.map_some, ↓reduceIte, Nat.zero_add]
    exact ⟨_, .same, by rw [numF_err he], by rw [numF_err he]; exact (setOb_self h).symm⟩
  subst he
  obtain ⟨k, p', e', n1, n2, n3, n4⟩ := numF_spec2 l p 0 most hp
  have c46 : O22 64 [v, .int .i64 p, .int .i64 most] st (.tup [.int .i64 k, .int .i64 p', .int .i64 e']) st := .inl (o46 hv hl hp n1)
  rw [n1]
  simp (maxSteps := 2000000) (disch := first | omega | simp only [List.length_append, List.length_cons, List.length_nil, List.length_map] <;> omega) only [sf46, h, hro, hgot, hexc, flg_int, exc_int, swp_seq, swp_reg, swp_skip, swp_cond, seqK_n, condK_f, evK_some, appK_eq, srun_nil, srun_cons, stepK_call, swpF_eq, sk_mv, sk_give, sk_bin, sk_nilc, sk_fld, sk_load, get_mk, raw_slot, raw_lit, put_some, wb_nil, ev_mv, ev_give, ev_nilc, ev_fld, bin_neq, ev_ldP, ldP_some, ro_int, ro_ptr, got_int, pubs, pubsFrom, List.map_cons, List.map_nil, List.getD_cons_zero, List.getD_cons_succ, List.set_cons_zero, List.set_cons_succ, List.getElem?_cons_zero, List.getElem?_cons_succ, List.length_cons, List.length_nil, List.replicate_succ, List.replicate_zero, List.cons_append, List.nil_append, Nat.reduceAdd, Nat.reduceSub, Bool.false_eq_true, Option.map_some, ↓reduceIte, Nat.zero_add, bne_self_eq_false]
  refine callK_intro c46 ?_
  simp (maxSteps := 2000000) (disch := first | omega | simp only [List.length_append, List.length_cons, List.length_nil, List.length_map] <;> omega) only [seqK_n, evK_some, appK_eq, appC_eq, srun_nil, srun_cons, sk_mv, get_mk, raw_slot, put_some, wb_nil, ev_mv, ro_tup, ro2_int, List.map_cons, List.map_nil, List.getD_cons_zero, List.getD_cons_succ, List.set_cons_zero, List.set_cons_succ]
  apply swp_to
  · repeat' first
      | exact swp_ttI
      | refine swp_bothI ?_ ?_
      | exact ⟨rfl, rfl⟩
      | exact rfl
      | simp (maxSteps := 2000000) (disch := first | omega | simp only [List.length_append, List.length_cons, List.length_nil, List.length_map] <;> omega) only [flg_int, swp_seq, swp_reg, seqK_n, evK_some, appK_eq, srun_nil, srun_cons, sk_give, sk_ext, get_mk, raw_slot, put_some, wb_nil, ev_give, ev_ext, ro_int, List.map_cons, List.map_nil, List.getD_cons_zero, List.getD_cons_succ, List.set_cons_zero, List.set_cons_succ, List.getElem?_cons_zero, List.getElem?_cons_succ, true_and, Bool.false_eq_true, Option.map_some, ↓reduceIte]
  simp (maxSteps := 2000000) (disch := first | omega | simp only [List.length_append, List.length_cons, List.length_nil, List.length_map] <;> omega) only [h, flg_int, swp_seq, swp_reg, swp_ret, seqK_n, evK_some, appK_eq, srun_nil, srun_cons, fin_ret, sk_mv, sk_give, sk_nilc, sk_fld, sk_store, get_mk, raw_slot, put_some, put_none, wb_nil, ev_mv, ev_give, ev_nilc, ev_fld, stP_some, setOb_setOb, ro_int, ro_ptr, List.map_cons, List.map_nil, List.getD_cons_zero, List.getD_cons_succ, List.set_cons_zero, List.set_cons_succ, List.length_cons, List.length_nil, Nat.reduceAdd, Nat.reduceLT, true_and, Bool.false_eq_true, ↓reduceIte, Nat.zero_add, st_int, setOb_same]
  exact ⟨_, .same, rfl⟩
def K24 : List SV → List Ob → SV → List Ob → Prop := fun args st r st' => ∃ v l p e id most, rdv v l ∧ l.length ≤ 1099511627776 ∧ p ≤ l.length ∧ st[id]? = some (.cells [v, .int .i64 (p : Nat), .int .i64 e]) ∧ args = [.ptr id 0, .int .i64 most] ∧ r = .int .i64 (numF ⟨l, p, e⟩ most).1 ∧ st' = setOb st id [v, .int .i64 (numF ⟨l, p, e⟩ most).2.p, .int .i64 (numF ⟨l, p, e⟩ most).2.e]
def O23 : Orc := O22.add 46 K24
theorem s23 : Sound Tryd.prog O23 := s22.add c46 (by kernel_rfl) (by
  rintro args st r st' ⟨v, l, p, e, id, most, hv, hl, hp, h, rfl, rfl, rfl⟩
  exact ⟨by simp [sf46], k24 l p e id st most v hv hl hp h⟩)
set_option maxHeartbeats 4000000 in
theorem k26 (l : List UInt8) (p : Nat) (e : Int) (id : Nat) (st : List Ob) (most : Int) (v : SV) (hv : rdv v l) (hl : l.length ≤ 1099511627776) (hp : p ≤ l.length) (h : st[id]? = some (.cells [v, .int .i64 p, .int .i64 e])) :
    swpF O23 sf47 [.ptr id 0, .int .i64 most] st (fun r st' => r = .str (textF ⟨l, p, e⟩ most).1 ∧ st' = setOb st id [v, .int .i64 (textF ⟨l, p, e⟩ most).2.p, .int .i64 (textF ⟨l, p, e⟩ most).2.e]) := by
  obtain ⟨hro, hgot, hexc, hflg, hla⟩ := rdL_facts (f := fun x : UInt8 => .int .u8 x.toNat) hv
  have hlt := ob_lt h
  by_cases he : e = 0
  case neg =>
    have hb : (e != 0) = true := by simpa using he
    simp (maxSteps := 2000000) (disch := first | omega | simp only [List.length_append, List.length_cons, List.length_nil, List.length_map] <;> omega) only [sf47, h, hb, flg_str, swp_seq, swp_reg, swp_ret, swp_cond, seqK_n, seqK_r, condK_t, evK_some, appK_eq, srun_nil, srun_cons, fin_ret, swpF_eq, sk_mv, sk_give, sk_bin, sk_nilc, sk_fld, sk_load, get_mk, raw_slot, raw_lit, put_some, wb_nil, ev_mv, ev_give, ev_nilc, ev_fld, bin_neq, ev_ldP, ldP_some, ro_int, ro_str, ro_ptr, List.map_cons, List.map_nil, List.getD_cons_zero, List.getD_cons_succ, List.set_cons_zero, List.set_cons_succ, List.getElem?_cons_zero, List.getElem?_cons_succ, List.length_cons, List.length_nil, List.replicate_succ, List.replicate_zero, List.cons_append, List.nil_append, Nat.reduceAdd, Nat.reduceSub, Bool.false_eq_true, Option.map_some, ↓reduceIte, Nat.zero_add]
    exact ⟨_, .same, by rw [textF_err he], by rw [textF_err he]; exact (setOb_self h).symm⟩
  subst he
  have c47 : O23 65 [v, .int .i64 p, .int .i64 most] st (.tup [.str (textF ⟨l, p, 0⟩ most).1, .int .i64 (textF ⟨l, p, 0⟩ most).2.p, .int .i64 (textF ⟨l, p, 0⟩ most).2.e]) st := .inl (.inr ⟨rfl, rfl, v, l, p, most, hv, hl, hp, rfl, rfl⟩)
  generalize (textF ⟨l, p, 0⟩ most).1 = x, ((textF ⟨l, p, 0⟩ most).2.p : Int) = y, (textF ⟨l, p, 0⟩ most).2.e = z at *
  simp (maxSteps := 2000000) (disch := first | omega | simp only [List.length_append, List.length_cons, List.length_nil, List.length_map] <;> omega) only [sf47, h, hro, hgot, hexc, flg_str, exc_int, swp_seq, swp_reg, swp_skip, swp_cond, seqK_n, condK_f, evK_some, appK_eq, srun_nil, srun_cons, stepK_call, swpF_eq, sk_mv, sk_give, sk_bin, sk_nilc, sk_fld, sk_load, get_mk, raw_slot, raw_lit, put_some, wb_nil, ev_mv, ev_give, ev_nilc, ev_fld, bin_neq, ev_ldP, ldP_some, ro_int, ro_str, ro_ptr, got_int, pubs, pubsFrom, List.map_cons, List.map_nil, List.getD_cons_zero, List.getD_cons_succ, List.set_cons_zero, List.set_cons_succ, List.getElem?_cons_zero, List.getElem?_cons_succ, List.length_cons, List.length_nil, List.replicate_succ, List.replicate_zero, List.cons_append, List.nil_append, Nat.reduceAdd, Nat.reduceSub, Bool.false_eq_true, Option.map_some, ↓reduceIte, Nat.zero_add, bne_self_eq_false]
  refine callK_intro c47 ?_
  simp (maxSteps := 2000000) (disch := first | omega | simp only [List.length_append, List.length_cons, List.length_nil, List.length_map] <;> omega) only [seqK_n, evK_some, appK_eq, appC_eq, srun_nil, srun_cons, sk_mv, get_mk, raw_slot, put_some, wb_nil, ev_mv, ro_tup, ro2_int, ro2_str, List.map_cons, List.map_nil, List.getD_cons_zero, List.getD_cons_succ, List.set_cons_zero, List.set_cons_succ]
  apply swp_to
  · repeat' first
      | exact swp_ttI
      | refine swp_bothI ?_ ?_
      | exact ⟨rfl, rfl⟩
      | exact rfl
      | simp (maxSteps := 2000000) (disch := first | omega | simp only [List.length_append, List.length_cons, List.length_nil, List.length_map] <;> omega) only [flg_int, flg_str, swp_seq, swp_reg, seqK_n, evK_some, appK_eq, srun_nil, srun_cons, sk_give, sk_ext, get_mk, raw_slot, put_some, wb_nil, ev_give, ev_ext, ro_int, ro_str, List.map_cons, List.map_nil, List.getD_cons_zero, List.getD_cons_succ, List.set_cons_zero, List.set_cons_succ, List.getElem?_cons_zero, List.getElem?_cons_succ, true_and, Bool.false_eq_true, Option.map_some, ↓reduceIte]
  simp (maxSteps := 2000000) (disch := first | omega | simp only [List.length_append, List.length_cons, List.length_nil, List.length_map] <;> omega) only [h, flg_str, swp_seq, swp_reg, swp_ret, seqK_n, evK_some, appK_eq, srun_nil, srun_cons, fin_ret, sk_mv, sk_give, sk_nilc, sk_fld, sk_store, get_mk, raw_slot, put_some, put_none, wb_nil, ev_mv, ev_give, ev_nilc, ev_fld, stP_some, setOb_setOb, ro_int, ro_str, ro_ptr, List.map_cons, List.map_nil, List.getD_cons_zero, List.getD_cons_succ, List.set_cons_zero, List.set_cons_succ, List.length_cons, List.length_nil, Nat.reduceAdd, Nat.reduceLT, true_and, Bool.false_eq_true, ↓reduceIte, Nat.zero_add, st_int, setOb_same]
  exact ⟨_, .same, rfl⟩
def K26 : List SV → List Ob → SV → List Ob → Prop := fun args st r st' => ∃ v l p e id most, rdv v l ∧ l.length ≤ 1099511627776 ∧ p ≤ l.length ∧ st[id]? = some (.cells [v, .int .i64 (p : Nat), .int .i64 e]) ∧ args = [.ptr id 0, .int .i64 most] ∧ r = .str (textF ⟨l, p, e⟩ most).1 ∧ st' = setOb st id [v, .int .i64 (textF ⟨l, p, e⟩ most).2.p, .int .i64 (textF ⟨l, p, e⟩ most).2.e]
def O24 : Orc := O23.add 47 K26
theorem s24 : Sound Tryd.prog O24 := s23.add c47 (by kernel_rfl) (by
  rintro args st r st' ⟨v, l, p, e, id, most, hv, hl, hp, h, rfl, rfl, rfl⟩
  exact ⟨by simp [sf47], k26 l p e id st most v hv hl hp h⟩)
set_option maxHeartbeats 4000000 in
theorem k31 (l : List UInt8) (p : Nat) (e : Int) (id : Nat) (st : List Ob) (v : SV) (hv : rdv v l) (h : st[id]? = some (.cells [v, .int .i64 p, .int .i64 e])) :
    swpF O24 sf48 [.ptr id 0] st (fun r st' => r = .int .i64 (endF ⟨l, p, e⟩).e ∧ st' = setOb st id [v, .int .i64 (endF ⟨l, p, e⟩).p, .int .i64 (endF ⟨l, p, e⟩).e]) := by
  obtain ⟨hro, hgot, hexc, hflg, hla⟩ := rdL_facts (f := fun x : UInt8 => .int .u8 x.toNat) hv
  have hlt := ob_lt h
  by_cases he : e = 0
  case neg =>
    have hb : (e == 0) = false := by simpa using he
    have hE : endF ⟨l, p, e⟩ = ⟨l, p, e⟩ := by simp [endF, he]
    simp (maxSteps := 2000000) (disch := first | omega | simp only [List.length_append, List.length_cons, List.length_nil, List.length_map] <;> omega) only [sf48, h, hb, grd_t, ev_pick, flg_int, swp_seq, swp_reg, swp_skip, swp_ret, swp_cond, seqK_n, condK_f, evK_some, appK_eq, srun_nil, srun_cons, stepK_grd, fin_ret, swpF_eq, sk_mv, sk_give, sk_pick, sk_bin, sk_nilc, sk_fld, sk_load, get_mk, raw_slot, raw_lit, put_some, wb_nil, ev_mv, ev_give, ev_nilc, ev_fld, bin_eql, ev_ldP, ldP_some, ro_int, ro_bool, ro_ptr, List.map_cons, List.map_nil, List.getD_cons_zero, List.getD_cons_succ, List.set_cons_zero, List.set_cons_succ, List.getElem?_cons_zero, List.getElem?_cons_succ, List.length_cons, List.length_nil, List.replicate_succ, List.replicate_zero, List.cons_append, List.nil_append, Nat.reduceSub, Bool.false_eq_true, Option.map_some, ↓reduceIte, Nat.zero_add]
    exact ⟨_, .same, by rw [hE], by rw [hE]; exact (setOb_self h).symm⟩
  subst he
  by_cases hpl : p < l.length
  · have hE : endF ⟨l, p, 0⟩ = ⟨l, p, 4⟩ := by simp [endF, hpl]
    have hd : decide ((p : Int) < l.length) = true := by simp; omega
    simp (maxSteps := 2000000) (disch := first | omega | simp only [List.length_append, List.length_cons, List.length_nil, List.length_map] <;> omega) only [sf48, h, hd, hro, hla, grd_t, ev_pick, flg_int, swp_seq, swp_reg, swp_ret, swp_cond, seqK_n, condK_t, evK_some, appK_eq, srun_nil, srun_cons, stepK_grd, fin_ret, swpF_eq, sk_mv, sk_give, sk_pick, sk_bin, sk_nilc, sk_fld, sk_load, sk_store, sk_lenL, get_mk, raw_slot, raw_lit, put_some, put_none, wb_nil, ev_mv, ev_give, ev_nilc, ev_fld, bin_eql, bin_lss, ev_ldP, ldP_some, stP_some, ro_int, ro_bool, ro_ptr, List.map_cons, List.map_nil, List.getD_cons_zero, List.getD_cons_succ, List.set_cons_zero, List.set_cons_succ, List.getElem?_cons_zero, List.getElem?_cons_succ, List.length_cons, List.length_nil, List.replicate_succ, List.replicate_zero, List.cons_append, List.nil_append, Nat.reduceAdd, Nat.reduceSub, Nat.reduceLT, Bool.false_eq_true, Option.map_some, ↓reduceIte, Nat.zero_add, beq_self_eq_true, st_int, setOb_same]
    exact ⟨_, .same, by rw [hE], by rw [hE]⟩
  · have hE : endF ⟨l, p, 0⟩ = ⟨l, p, 0⟩ := by simp [endF, hpl]
    have hd : decide ((p : Int) < l.length) = false := by simp; omega
    simp (maxSteps := 2000000) (disch := first | omega | simp only [List.length_append, List.length_cons, List.length_nil, List.length_map] <;> omega) only [sf48, h, hd, hro, hla, grd_t, ev_pick, flg_int, swp_seq, swp_reg, swp_skip, swp_ret, swp_cond, seqK_n, condK_f, evK_some, appK_eq, srun_nil, srun_cons, stepK_grd, fin_ret, swpF_eq, sk_mv, sk_give, sk_pick, sk_bin, sk_nilc, sk_fld, sk_load, sk_lenL, get_mk, raw_slot, raw_lit, put_some, wb_nil, ev_mv, ev_give, ev_nilc, ev_fld, bin_eql, bin_lss, ev_ldP, ldP_some, ro_int, ro_bool, ro_ptr, List.map_cons, List.map_nil, List.getD_cons_zero, List.getD_cons_succ, List.set_cons_zero, List.set_cons_succ, List.getElem?_cons_zero, List.getElem?_cons_succ, List.length_cons, List.length_nil, List.replicate_succ, List.replicate_zero, List.cons_append, List.nil_append, Nat.reduceSub, Bool.false_eq_true, Option.map_some, ↓reduceIte, Nat.zero_add, beq_self_eq_true]
    exact ⟨_, .same, by rw [hE], by rw [hE]; exact (setOb_self h).symm⟩
def K31 : List SV → List Ob → SV → List Ob → Prop := fun args st r st' => ∃ v l p e id, rdv v l ∧ st[id]? = some (.cells [v, .int .i64 (p : Nat), .int .i64 e]) ∧ args = [.ptr id 0] ∧ r = .int .i64 (endF ⟨l, p, e⟩).e ∧ st' = setOb st id [v, .int .i64 (endF ⟨l, p, e⟩).p, .int .i64 (endF ⟨l, p, e⟩).e]
def O25 : Orc := O24.add 48 K31
theorem s25 : Sound Tryd.prog O25 := s24.add c48 (by kernel_rfl) (by
  rintro args st r st' ⟨v, l, p, e, id, hv, h, rfl, rfl, rfl⟩
  exact ⟨by simp [sf48], k31 l p e id st v hv h⟩)
end Go.Sh.W
