/-
  The small case of the pads, and PadTells, in the shadow machine.
-/
import Derived.Test.YtfiigeiajhecoaaT32
set_option linter.unusedSimpArgs false
set_option linter.unusedVariables false
namespace Go.Sh.F
theorem okSt_nil : okSt [] := rfl
section
variable {st : List Ob}
theorem y39 (h : okSt st) (n : Int) : O41 39 [.int .i64 n] st (.int .i64 (bucketF n)) st := .inl (.inl (l37 (.inl (.inl (.inl (.inr ⟨rfl, h, n, rfl, rfl, rfl⟩))))))
theorem y40 (n : Int) : O41 40 [.int .i64 n] st (.int .i64 (bucketF n)) st := .inl (.inl (l37 (.inr ⟨rfl, n, rfl, rfl, rfl⟩)))
theorem y41 (h : okSt st) (n : Int) : O41 41 [.int .i64 n] st (.int .i64 (sizeF n)) st := .inl (.inl (l37 (.inl (.inl (.inr ⟨rfl, h, n, rfl, rfl, rfl⟩)))))
theorem y42 (n : Int) : O41 42 [.int .i64 n] st (.int .i64 (sizeF n)) st := .inl (.inl (l37 (.inl (.inr ⟨rfl, n, rfl, rfl, rfl⟩))))
theorem y43 (h : okSt st) : O41 43 [] st (.sl L4 4 (.excl 1)) st := .inl (.inl (l37 (.inl (.inl (.inl (.inl (.inl (.inl (.inr ⟨rfl, h, rfl, rfl, rfl⟩)))))))))
theorem y35 {s p : List UInt8} {e : Int} (h : okSt st) (hs : s.length ≤ 1073741824) (hp : padF s = (p, e)) : O41 35 [.str s] st (.tup [.str p, .int .i64 e]) st := .inl (.inl (.inl (.inr ⟨rfl, h, rfl, s, hs, rfl, by rw [hp]⟩)))
theorem y36 {s p : List UInt8} {e : Int} (hs : s.length ≤ 1073741824) (hp : padF s = (p, e)) : O41 36 [.str s] st (.tup [.str p, .int .i64 e]) st := .inl (.inr ⟨rfl, rfl, s, hs, rfl, by rw [hp]⟩)
theorem y37 {s p : List UInt8} {e : Int} (h : okSt st) (hs : s.length ≤ 1073741824) (hp : stripF s = (p, e)) : O41 37 [.str s] st (.tup [.str p, .int .i64 e]) st := .inl (.inl (.inr ⟨rfl, h, rfl, s, hs, rfl, by rw [hp]⟩))
theorem y38 {s p : List UInt8} {e : Int} (h : okSt st) (hs : s.length ≤ 1073741824) (hp : stripF s = (p, e)) : O41 38 [.str s] st (.tup [.str p, .int .i64 e]) st := .inr ⟨rfl, h, rfl, s, hs, rfl, by rw [hp]⟩
end
set_option maxHeartbeats 2000000 in
theorem k34 : swpF O41 sf34 [] [] (fun r st' => r = .bool true ∧ st' = []) := by
  obtain ⟨P, hP⟩ : ∃ P, P = (padF [97, 98]).1 := ⟨_, rfl⟩
  have h1 : padF [97, 98] = (P, 0) := by rw [hP]; kernel_rfl
  have h2 : P.length = 80 := by rw [hP]; kernel_rfl
  have h3 : stripF P = ([97, 98], 0) := by rw [hP]; kernel_rfl
  have h4 : stripF (P ++ [0]) = ([], 4) := by rw [hP]; kernel_rfl
  have b0 : ((P.length : Int) == 80) = true := by rw [h2]; rfl
  clear hP
  simp (maxSteps := 2000000) (disch := first | omega | (simp only [List.length_append, List.length_cons, List.length_nil, List.length_map] <;> omega)) only [sf34, flg_bool, exc_str, swp_seq, swp_reg, seqK_n, evK_some, appK_eq, srun_nil, srun_cons, stepK_call, swpF_eq, sk_give, raw_lit, put_some, wb_nil, ev_give, ro_bool, got_str, pubs, pubsFrom, List.map_cons, List.map_nil, List.set_cons_zero, List.length_nil, List.replicate_succ, List.replicate_zero, List.nil_append, Nat.reduceSub, Bool.false_eq_true, ↓reduceIte, Int.reduceNeg]
  refine callK_intro (y35 okSt_nil (by simp) h1) ?_
  simp (maxSteps := 2000000) (disch := first | omega | (simp only [List.length_append, List.length_cons, List.length_nil, List.length_map] <;> omega)) only [flg_int, flg_str, exc_str, swp_seq, swp_reg, seqK_n, evK_some, appK_eq, appC_eq, srun_nil, srun_cons, stepK_call, sk_mv, sk_give, sk_ext, get_mk, raw_slot, put_some, wb_nil, ev_mv, ev_give, ev_ext, ro_int, ro_str, ro_tup, ro2_int, ro2_str, got_str, pubs, pubsFrom, List.map_cons, List.map_nil, List.getD_cons_zero, List.getD_cons_succ, List.set_cons_zero, List.set_cons_succ, List.getElem?_cons_zero, List.getElem?_cons_succ, Bool.false_eq_true, Option.map_some, ↓reduceIte, Int.reduceNeg]
  refine callK_intro (y37 okSt_nil (by omega) h3) ?_
  simp (maxSteps := 2000000) (disch := first | omega | (simp only [List.length_append, List.length_cons, List.length_nil, List.length_map] <;> omega)) only [bin_addS, flg_int, flg_str, exc_str, swp_seq, swp_reg, seqK_n, evK_some, appK_eq, appC_eq, srun_nil, srun_cons, stepK_call, sk_mv, sk_give, sk_bin, sk_ext, get_mk, raw_slot, raw_lit, put_some, wb_nil, ev_mv, ev_give, ev_ext, ro_int, ro_str, ro_tup, ro2_int, ro2_str, got_str, pubs, pubsFrom, List.map_cons, List.map_nil, List.getD_cons_zero, List.getD_cons_succ, List.set_cons_zero, List.set_cons_succ, List.getElem?_cons_zero, List.getElem?_cons_succ, Bool.false_eq_true, Option.map_some, ↓reduceIte, Int.reduceNeg]
  refine callK_intro (y37 okSt_nil (by simp [h2]) h4) ?_
  simp (maxSteps := 2000000) (disch := first | omega | (simp only [List.length_append, List.length_cons, List.length_nil, List.length_map] <;> omega)) only [flg_int, flg_str, swp_seq, swp_reg, seqK_n, evK_some, appK_eq, appC_eq, srun_nil, srun_cons, stepK_call, sk_mv, sk_give, sk_ext, get_mk, raw_slot, put_some, wb_nil, ev_mv, ev_give, ev_ext, ro_int, ro_str, ro_tup, ro2_int, ro2_str, pubs, pubsFrom, List.map_cons, List.map_nil, List.getD_cons_zero, List.getD_cons_succ, List.set_cons_zero, List.set_cons_succ, List.getElem?_cons_zero, List.getElem?_cons_succ, Bool.false_eq_true, Option.map_some, ↓reduceIte, Int.reduceNeg]
  refine callK_intro (y43 okSt_nil) ?_
  simp (maxSteps := 2000000) (disch := first | omega | (simp only [List.length_append, List.length_cons, List.length_nil, List.length_map] <;> omega)) only [b0, grd_t, ev_pick, flg_excl, exc_int, exc_str, swp_seq, swp_reg, seqK_n, evK_some, appK_eq, appC_eq, grd_t, srun_nil, srun_cons, stepK_call, stepK_grd, sk_mv, sk_take, sk_give, sk_pick, sk_bin, sk_lenS, get_mk, raw_slot, raw_lit, put_some, wb_nil, wb_cons, ev_mv, ev_take, ev_give, ev_pick, ev_lenS, bin_eql, bin_eqlS, ro_int, ro_bool, ro_excl, got_int, got_str, pubs, pubsFrom, List.map_cons, List.map_nil, List.getD_cons_zero, List.getD_cons_succ, List.set_cons_zero, List.set_cons_succ, List.getElem?_cons_zero, Bool.false_eq_true, ↓reduceIte, beq_self_eq_true, Int.reduceNeg]
  refine callK_intro (y39 okSt_nil 76) ?_
  simp (maxSteps := 2000000) (disch := first | omega | (simp only [List.length_append, List.length_cons, List.length_nil, List.length_map] <;> omega)) only [show bucketF 76 = 0 from rfl, grd_t, ev_pick, exc_int, evK_some, appK_eq, appC_eq, grd_t, srun_cons, stepK_call, stepK_grd, sk_mv, sk_pick, sk_bin, get_mk, raw_slot, raw_lit, put_some, wb_nil, ev_mv, ev_pick, bin_eql, ro_bool, got_int, pubs, pubsFrom, List.map_cons, List.map_nil, List.getD_cons_zero, List.getD_cons_succ, List.set_cons_zero, List.set_cons_succ, Bool.false_eq_true, ↓reduceIte, beq_self_eq_true, Int.reduceNeg]
  refine callK_intro (y39 okSt_nil 77) ?_
  simp (maxSteps := 2000000) (disch := first | omega | (simp only [List.length_append, List.length_cons, List.length_nil, List.length_map] <;> omega)) only [show bucketF 77 = 1 from rfl, grd_t, ev_pick, exc_int, evK_some, appK_eq, appC_eq, grd_t, srun_cons, stepK_call, stepK_grd, sk_mv, sk_pick, sk_bin, get_mk, raw_slot, raw_lit, put_some, wb_nil, ev_mv, ev_pick, bin_eql, ro_bool, got_int, pubs, pubsFrom, List.map_cons, List.map_nil, List.getD_cons_zero, List.getD_cons_succ, List.set_cons_zero, List.set_cons_succ, Bool.false_eq_true, ↓reduceIte, beq_self_eq_true, Int.reduceNeg]
  refine callK_intro (y39 okSt_nil 5117) ?_
  simp (maxSteps := 2000000) (disch := first | omega | (simp only [List.length_append, List.length_cons, List.length_nil, List.length_map] <;> omega)) only [show bucketF 5117 = -1 from rfl, grd_t, ev_pick, exc_int, evK_some, appK_eq, appC_eq, grd_t, srun_cons, stepK_call, stepK_grd, sk_mv, sk_pick, sk_bin, get_mk, raw_slot, raw_lit, put_some, wb_nil, ev_mv, ev_pick, bin_eql, ro_bool, got_int, pubs, pubsFrom, List.map_cons, List.map_nil, List.getD_cons_zero, List.getD_cons_succ, List.set_cons_zero, List.set_cons_succ, Bool.false_eq_true, ↓reduceIte, beq_self_eq_true, Int.reduceNeg]
  refine callK_intro (y41 okSt_nil 3) ?_
  simp (maxSteps := 2000000) (disch := first | omega | (simp only [List.length_append, List.length_cons, List.length_nil, List.length_map] <;> omega)) only [show sizeF 3 = 5120 from rfl, grd_t, ev_pick, exc_int, evK_some, appK_eq, appC_eq, grd_t, srun_cons, stepK_call, stepK_grd, sk_mv, sk_pick, sk_bin, get_mk, raw_slot, raw_lit, put_some, wb_nil, ev_mv, ev_pick, bin_eql, ro_bool, got_int, pubs, pubsFrom, List.map_cons, List.map_nil, List.getD_cons_zero, List.getD_cons_succ, List.set_cons_zero, List.set_cons_succ, Bool.false_eq_true, ↓reduceIte, beq_self_eq_true, Int.reduceNeg]
  refine callK_intro (y41 okSt_nil 4) ?_
  simp (maxSteps := 2000000) (disch := first | omega | (simp only [List.length_append, List.length_cons, List.length_nil, List.length_map] <;> omega)) only [show sizeF 4 = 0 from rfl, L4, grd_t, ev_pick, flg_bool, exc_own, exc_excl, sk_idxB, idxB_ro, swp_ret, seqK_n, evK_some, appK_eq, appC_eq, grd_t, srun_nil, srun_cons, stepK_grd, fin_ret, sk_mv, sk_take, sk_give, sk_pick, sk_bin, sk_load, sk_lenL, get_mk, raw_slot, raw_lit, put_some, wb_nil, wb_cons, ev_mv, ev_take, ev_give, ev_pick, ev_lenL, bin_eql, ev_loadE, ro_int, ro_bool, got_excl, got_own, pub_excl, List.map_cons, List.map_nil, List.getD_cons_zero, List.getD_cons_succ, List.set_cons_zero, List.set_cons_succ, List.getElem?_cons_zero, List.getElem?_cons_succ, List.length_nil, true_and, Bool.false_eq_true, Option.map_some, ↓reduceIte, Nat.mul_one, beq_self_eq_true, Int.cast_ofNat_Int, Int.reduceToNat, Int.reduceNeg]
  exact ⟨_, .same, rfl⟩
def K34 : List SV → List Ob → SV → List Ob → Prop := fun args st r st' => args = [] ∧ st = [] ∧ r = .bool true ∧ st' = []
def O42 : Orc := O41.add 34 K34
theorem s42 : Sound Proofs.Try.prog O42 := s41.add c34 (by kernel_rfl) (by
  rintro args st r st' ⟨rfl, rfl, rfl, rfl⟩
  exact ⟨by simp [sf34], k34⟩)
theorem y34 : O42 34 [] [] (.bool true) [] := .inr ⟨rfl, rfl, rfl, rfl, rfl⟩
theorem fTells (n more : Int) (s : List UInt8) (hs : s.length ≤ 1073741824) : swpF O42 sf5 [.int .i64 n, .str s, .int .i64 more] [] (fun r _ => r = .bool true) := by
  simp (maxSteps := 2000000) (disch := first | omega | (simp only [List.length_append, List.length_cons, List.length_nil, List.length_map] <;> omega)) only [sf5, flg_bool, swp_seq, swp_reg, seqK_n, evK_some, appK_eq, srun_nil, srun_cons, stepK_call, swpF_eq, sk_give, raw_lit, put_some, wb_nil, ev_give, ro_bool, pubs, pubsFrom, List.map_cons, List.map_nil, List.set_cons_zero, List.set_cons_succ, List.length_cons, List.length_nil, List.replicate_succ, List.replicate_zero, List.cons_append, List.nil_append, Nat.reduceAdd, Nat.reduceSub, Bool.false_eq_true, ↓reduceIte, Nat.zero_add]
  refine callK_intro y34 ?_
  by_cases h1 : s.length ≤ 6000
  case neg =>
    have d1 : decide ((6000 : Int) < s.length) = true := by simp; omega
    simp (maxSteps := 2000000) (disch := first | omega | (simp only [List.length_append, List.length_cons, List.length_nil, List.length_map] <;> omega)) only [d1, grd_t, ev_pick, flg_bool, swp_seq, swp_reg, swp_ret, swp_cond, seqK_n, seqK_r, condK_t, evK_some, appK_eq, appC_eq, grd_t, srun_nil, srun_cons, stepK_grd, fin_ret, sk_mv, sk_give, sk_pick, sk_bin, sk_lenS, get_mk, raw_slot, raw_lit, put_some, wb_nil, ev_mv, ev_give, ev_pick, ev_lenS, bin_gtr, ro_bool, ro_str, List.map_cons, List.map_nil, List.getD_cons_zero, List.getD_cons_succ, List.set_cons_zero, List.set_cons_succ, List.length_nil, and_true, Bool.false_eq_true, ↓reduceIte, reduceCtorEq, gt_iff_lt]
    exact ⟨_, .same⟩
  have d1 : decide ((6000 : Int) < s.length) = false := by simp; omega
  by_cases h2 : more < 0
  · have d2 : decide (more < 0) = true := by simp; omega
    simp (maxSteps := 2000000) (disch := first | omega | (simp only [List.length_append, List.length_cons, List.length_nil, List.length_map] <;> omega)) only [d1, d2, grd_t, ev_pick, flg_bool, exc_int, swp_seq, swp_reg, swp_ret, swp_cond, seqK_n, seqK_r, condK_t, evK_some, appK_eq, appC_eq, grd_t, srun_nil, srun_cons, stepK_grd, fin_ret, sk_mv, sk_take, sk_give, sk_pick, sk_bin, sk_lenS, get_mk, raw_slot, raw_lit, put_some, wb_nil, ev_mv, ev_take, ev_give, ev_pick, ev_lenS, bin_lss, bin_gtr, ro_bool, ro_str, got_int, List.map_cons, List.map_nil, List.getD_cons_zero, List.getD_cons_succ, List.set_cons_zero, List.set_cons_succ, List.length_nil, and_true, Bool.false_eq_true, ↓reduceIte, reduceCtorEq, gt_iff_lt]
    exact ⟨_, .same⟩
  have d2 : decide (more < 0) = false := by simp; omega
  by_cases h3 : more ≤ 6000
  case neg =>
    have d3 : decide (6000 < more) = true := by simp; omega
    simp (maxSteps := 2000000) (disch := first | omega | (simp only [List.length_append, List.length_cons, List.length_nil, List.length_map] <;> omega)) only [d1, d2, d3, grd_t, ev_pick, flg_bool, exc_int, swp_seq, swp_reg, swp_ret, swp_cond, seqK_n, seqK_r, condK_t, evK_some, appK_eq, appC_eq, grd_t, srun_nil, srun_cons, stepK_grd, fin_ret, sk_mv, sk_take, sk_give, sk_pick, sk_bin, sk_lenS, get_mk, raw_slot, raw_lit, put_some, wb_nil, ev_mv, ev_take, ev_give, ev_pick, ev_lenS, bin_lss, bin_gtr, ro_bool, ro_str, got_int, List.map_cons, List.map_nil, List.getD_cons_zero, List.getD_cons_succ, List.set_cons_zero, List.set_cons_succ, List.length_nil, and_true, Bool.false_eq_true, ↓reduceIte, gt_iff_lt]
    exact ⟨_, .same⟩
  have d3 : decide (6000 < more) = false := by simp; omega
  have hmk := ev_mkz (st := []) (n := more) (by omega) (by omega)
  have hzl := zer_len more.toNat
  have hb3 : ev [] .b2s [.sl (bsv (zer more.toNat)) more.toNat (.excl 1)] = some (.str (zer more.toNat), [], []) := by rw [b2s_bsv, if_pos hzl.symm]
  simp (maxSteps := 2000000) (disch := first | omega | (simp only [List.length_append, List.length_cons, List.length_nil, List.length_map] <;> omega)) only [d1, d2, d3, hmk, hb3, bin_addS, grd_t, ev_pick, flg_bool, flg_str, exc_int, exc_str, swp_seq, swp_reg, swp_skip, swp_cond, seqK_n, condK_f, evK_some, appK_eq, appC_eq, grd_t, srun_nil, srun_cons, stepK_call, stepK_grd, sk_mv, sk_take, sk_give, sk_pick, sk_bin, sk_b2s, sk_lenS, sk_mkS, get_mk, raw_slot, raw_lit, put_some, wb_nil, ev_mv, ev_take, ev_give, ev_pick, ev_lenS, bin_lss, bin_gtr, ro_int, ro_bool, ro_str, got_int, got_str, pubs, pubsFrom, List.map_cons, List.map_nil, List.getD_cons_zero, List.getD_cons_succ, List.set_cons_zero, List.set_cons_succ, Bool.false_eq_true, ↓reduceIte, gt_iff_lt]
  obtain ⟨x, hx⟩ : ∃ x, x = s ++ zer more.toNat := ⟨_, rfl⟩
  rw [← hx]
  have hxl : x.length ≤ 1073741824 := by rw [hx, List.length_append, hzl]; omega
  obtain ⟨⟨p, e⟩, hp⟩ : ∃ y, y = padF x := ⟨_, rfl⟩
  obtain ⟨⟨q, f⟩, hq⟩ : ∃ y, y = stripF x := ⟨_, rfl⟩
  have e1 : (p == p) = true := by simp
  have e2 : (e == e) = true := by simp
  have e3 : (q == q) = true := by simp
  have e4 : (f == f) = true := by simp
  have e5 : (bucketF n == bucketF n) = true := by simp
  have e6 : (sizeF n == sizeF n) = true := by simp
  refine callK_intro (.inl (y35 okSt_nil hxl hp.symm)) ?_
  simp (maxSteps := 2000000) (disch := first | omega | (simp only [List.length_append, List.length_cons, List.length_nil, List.length_map] <;> omega)) only [flg_int, flg_str, exc_str, swp_seq, swp_reg, seqK_n, evK_some, appK_eq, appC_eq, srun_nil, srun_cons, stepK_call, sk_mv, sk_give, sk_ext, get_mk, raw_slot, put_some, wb_nil, ev_mv, ev_give, ev_ext, ro_int, ro_str, ro_tup, ro2_int, ro2_str, got_str, pubs, pubsFrom, List.map_cons, List.map_nil, List.getD_cons_zero, List.getD_cons_succ, List.set_cons_zero, List.set_cons_succ, List.getElem?_cons_zero, List.getElem?_cons_succ, Bool.false_eq_true, Option.map_some, ↓reduceIte]
  refine callK_intro (.inl (y36 hxl hp.symm)) ?_
  simp (maxSteps := 2000000) (disch := first | omega | (simp only [List.length_append, List.length_cons, List.length_nil, List.length_map] <;> omega)) only [flg_int, flg_str, exc_str, swp_seq, swp_reg, seqK_n, evK_some, appK_eq, appC_eq, srun_nil, srun_cons, stepK_call, sk_mv, sk_give, sk_ext, get_mk, raw_slot, put_some, wb_nil, ev_mv, ev_give, ev_ext, ro_int, ro_str, ro_tup, ro2_int, ro2_str, got_str, pubs, pubsFrom, List.map_cons, List.map_nil, List.getD_cons_zero, List.getD_cons_succ, List.set_cons_zero, List.set_cons_succ, List.getElem?_cons_zero, List.getElem?_cons_succ, Bool.false_eq_true, Option.map_some, ↓reduceIte]
  refine callK_intro (.inl (y37 okSt_nil hxl hq.symm)) ?_
  simp (maxSteps := 2000000) (disch := first | omega | (simp only [List.length_append, List.length_cons, List.length_nil, List.length_map] <;> omega)) only [flg_int, flg_str, exc_str, swp_seq, swp_reg, seqK_n, evK_some, appK_eq, appC_eq, srun_nil, srun_cons, stepK_call, sk_mv, sk_give, sk_ext, get_mk, raw_slot, put_some, wb_nil, ev_mv, ev_give, ev_ext, ro_int, ro_str, ro_tup, ro2_int, ro2_str, got_str, pubs, pubsFrom, List.map_cons, List.map_nil, List.getD_cons_zero, List.getD_cons_succ, List.set_cons_zero, List.set_cons_succ, List.getElem?_cons_zero, List.getElem?_cons_succ, Bool.false_eq_true, Option.map_some, ↓reduceIte]
  refine callK_intro (.inl (y38 okSt_nil hxl hq.symm)) ?_
  simp (maxSteps := 2000000) (disch := first | omega | (simp only [List.length_append, List.length_cons, List.length_nil, List.length_map] <;> omega)) only [e1, e2, e3, e4, grd_t, ev_pick, flg_int, flg_str, exc_int, exc_str, swp_seq, swp_reg, seqK_n, evK_some, appK_eq, appC_eq, grd_t, srun_nil, srun_cons, stepK_call, stepK_grd, sk_mv, sk_take, sk_give, sk_pick, sk_bin, sk_ext, get_mk, raw_slot, raw_lit, put_some, wb_nil, ev_mv, ev_take, ev_give, ev_pick, ev_ext, bin_eql, bin_eqlS, ro_int, ro_bool, ro_str, ro_tup, ro2_int, ro2_str, got_int, got_str, pubs, pubsFrom, List.map_cons, List.map_nil, List.getD_cons_zero, List.getD_cons_succ, List.set_cons_zero, List.set_cons_succ, List.getElem?_cons_zero, List.getElem?_cons_succ, Bool.false_eq_true, Option.map_some, ↓reduceIte]
  refine callK_intro (.inl (y39 okSt_nil n)) ?_
  simp (maxSteps := 2000000) (disch := first | omega | (simp only [List.length_append, List.length_cons, List.length_nil, List.length_map] <;> omega)) only [grd_t, exc_int, evK_some, appK_eq, appC_eq, grd_t, srun_cons, stepK_call, stepK_grd, sk_take, get_mk, raw_slot, put_some, wb_nil, ev_take, got_int, pubs, pubsFrom, List.map_cons, List.map_nil, List.getD_cons_zero, List.getD_cons_succ, List.set_cons_zero, List.set_cons_succ, Bool.false_eq_true, ↓reduceIte]
  refine callK_intro (.inl (y40 n)) ?_
  simp (maxSteps := 2000000) (disch := first | omega | (simp only [List.length_append, List.length_cons, List.length_nil, List.length_map] <;> omega)) only [e5, grd_t, ev_pick, exc_int, evK_some, appK_eq, appC_eq, grd_t, srun_cons, stepK_call, stepK_grd, sk_mv, sk_take, sk_pick, sk_bin, get_mk, raw_slot, raw_lit, put_some, wb_nil, ev_mv, ev_take, ev_pick, bin_eql, ro_bool, got_int, pubs, pubsFrom, List.map_cons, List.map_nil, List.getD_cons_zero, List.getD_cons_succ, List.set_cons_zero, List.set_cons_succ, Bool.false_eq_true, ↓reduceIte]
  refine callK_intro (.inl (y41 okSt_nil n)) ?_
  simp (maxSteps := 2000000) (disch := first | omega | (simp only [List.length_append, List.length_cons, List.length_nil, List.length_map] <;> omega)) only [grd_t, exc_int, evK_some, appK_eq, appC_eq, grd_t, srun_cons, stepK_call, stepK_grd, sk_take, get_mk, raw_slot, put_some, wb_nil, ev_take, got_int, pubs, pubsFrom, List.map_cons, List.map_nil, List.getD_cons_zero, List.getD_cons_succ, List.set_cons_zero, List.set_cons_succ, Bool.false_eq_true, ↓reduceIte]
  refine callK_intro (.inl (y42 n)) ?_
  simp (maxSteps := 2000000) (disch := first | omega | (simp only [List.length_append, List.length_cons, List.length_nil, List.length_map] <;> omega)) only [e6, grd_t, ev_pick, flg_bool, swp_ret, seqK_n, evK_some, appK_eq, appC_eq, grd_t, srun_nil, srun_cons, stepK_grd, fin_ret, sk_give, sk_pick, sk_bin, get_mk, raw_slot, raw_lit, put_some, wb_nil, ev_give, ev_pick, bin_eql, ro_bool, List.map_cons, List.map_nil, List.getD_cons_zero, List.getD_cons_succ, List.set_cons_zero, List.set_cons_succ, List.length_nil, and_true, Bool.false_eq_true, ↓reduceIte]
  exact ⟨_, .same⟩
end Go.Sh.F
