/-
  The document's own writers, in the shadow machine.
-/
import Derived.Test.YtfiigeiajhecoaaT14h
set_option linter.unusedSimpArgs false
set_option linter.unusedVariables false
namespace Go.Sh.F
theorem be4_bsv' (c : Nat) : bsv (be4 c) = [.int .u8 (((c / 16777216 : Nat) : Int) % 256), .int .u8 (((c / 65536 : Nat) : Int) % 256), .int .u8 (((c / 256 : Nat) : Int) % 256), .int .u8 ((c : Int) % 256)] := by
  have h : ∀ (k : Nat), (((UInt8.ofNat k).toNat : Nat) : Int) = (k : Int) % 256 := by
    intro k; simp
  simp only [bsv, be4, List.map_cons, List.map_nil, h]
set_option maxHeartbeats 1000000 in
theorem f16 (O : Orc) (v : SV) (l : List UInt8) (n : Int) (hv : rdv v l) (hl : l.length ≤ 1099511627776) (st : List Ob) : swpF O sf17 [v, .int .i64 n] st (fun r st' => r = .sl (bsv (l ++ be4 (clampN n))) (l.length + 4) (.excl 1) ∧ st' = st) := by
  have hcl := clamp_eq n
  have hc := clampN_le n
  have h1 : ((clampN n : Nat) : Int).tdiv 16777216 = ((clampN n / 16777216 : Nat) : Int) := rfl
  have h2 : ((clampN n : Nat) : Int).tdiv 65536 = ((clampN n / 65536 : Nat) : Int) := rfl
  have h3 : ((clampN n : Nat) : Int).tdiv 256 = ((clampN n / 256 : Nat) : Int) := rfl
  have hb := be4_bsv' (clampN n)
  have hbl := bsv_len l
  have e : ∀ xs : List SV, (xs = bsv l ++ bsv (be4 (clampN n))) → SV.sl xs (l.length + 4) (.excl 1) = .sl (bsv (l ++ be4 (clampN n))) (l.length + 4) (.excl 1) := by
    rintro xs rfl; rw [bsv_app]
  rcases hv with ⟨rfl, rfl⟩ | rfl
  · simp (maxSteps := 2000000) (disch := first | omega | (simp only [List.length_append, List.length_cons, List.length_nil, List.length_map] <;> omega)) only [sf17, hcl, h1, h2, h3, bin_quo, app_excl_nil, flg_int, flg_nilS, flg_excl, exc_int, swp_seq, swp_reg, swp_ret, seqK_n, evK_some, appK_eq, srun_nil, srun_cons, fin_ret, swpF_eq, sk_mv, sk_give, sk_bin, sk_cvI, sk_min, sk_max, sk_bsl, sk_app, get_mk, raw_slot, raw_lit, put_some, wb_nil, wb_cons, ev_mv, ev_give, ev_cvI, ev_min, ev_max, ev_bsl, ro_int, ro_nilS, ro_excl, got_int, pubs, pubsFrom, List.map_cons, List.map_nil, List.getD_cons_zero, List.getD_cons_succ, List.set_cons_zero, List.set_cons_succ, List.getElem?_cons_zero, List.length_cons, List.length_nil, List.replicate_succ, List.replicate_zero, List.cons_append, List.nil_append, Nat.reduceAdd, Nat.reduceSub, Nat.reduceLeDiff, Nat.reduceLT, and_true, Bool.false_eq_true, Option.map_some, ↓reduceIte, List.all_cons, List.all_nil, Bool.and_self, List.zip_cons_cons, List.zip_nil_right, rep, fillV, wrCells, cellsV, isCell, List.flatten_cons, List.flatten_nil, List.append_nil, decide_true, Nat.mul_one, Nat.zero_add, gt_iff_lt, wrap_i64, wrap_u8, Nat.le_refl, app_excl, ev_cvI]
    exact ⟨_, .same, by rw [hb], rfl⟩
  · simp (maxSteps := 2000000) (disch := first | omega | (simp only [List.length_append, List.length_cons, List.length_nil, List.length_map] <;> omega)) only [sf17, hcl, h1, h2, h3, bin_quo, flg_int, flg_nilS, flg_excl, exc_int, swp_seq, swp_reg, swp_ret, seqK_n, evK_some, appK_eq, srun_nil, srun_cons, fin_ret, swpF_eq, sk_mv, sk_give, sk_bin, sk_cvI, sk_min, sk_max, sk_bsl, sk_app, get_mk, raw_slot, raw_lit, put_some, wb_nil, wb_cons, ev_mv, ev_give, ev_cvI, ev_min, ev_max, ev_bsl, ro_int, ro_nilS, ro_ro, ro_excl, got_int, pubs, pubsFrom, List.map_cons, List.map_nil, List.getD_cons_zero, List.getD_cons_succ, List.set_cons_zero, List.set_cons_succ, List.getElem?_cons_zero, List.length_cons, List.length_nil, List.replicate_succ, List.replicate_zero, List.cons_append, List.nil_append, Nat.reduceAdd, Nat.reduceSub, Nat.reduceLeDiff, Nat.reduceLT, and_true, Bool.false_eq_true, Option.map_some, ↓reduceIte, List.all_cons, List.all_nil, Bool.and_self, List.zip_cons_cons, List.zip_nil_right, rep, fillV, wrCells, cellsV, isCell, List.flatten_cons, List.flatten_nil, List.append_nil, decide_true, Nat.mul_one, Nat.zero_add, gt_iff_lt, wrap_i64, wrap_u8, Nat.le_refl, app_excl, ev_cvI]
    refine ⟨_, .same, ?_, rfl⟩
    rw [← e _ rfl, hb]
def C16 : List SV → List Ob → SV → List Ob → Prop := fun args st r st' => st' = st ∧ ∃ v l n, rdv v l ∧ l.length ≤ 1099511627776 ∧ args = [v, .int .i64 n] ∧ r = .sl (bsv (l ++ be4 (clampN n))) (l.length + 4) (.excl 1)
def O17 : Orc := O16.add 17 C16
theorem s17 : Sound Proofs.Try.prog O17 := s16.add c17 (by kernel_rfl) (by
  rintro args st r st' ⟨rfl, v, l, n, hv, hl, rfl, rfl⟩
  exact ⟨by simp [sf17], f16 _ v l n hv hl _⟩)
set_option maxHeartbeats 1000000 in
theorem f17 (v : SV) (l s : List UInt8) (hv : rdv v l) (hl : l.length ≤ 549755813888) (st : List Ob) : swpF O17 sf18 [v, .str s] st (fun r st' => r = .sl (bsv (l ++ strB s)) (l.length + (strB s).length) (.excl 1) ∧ st' = st) := by
  obtain ⟨hro, hgot, hexc, hflg⟩ := rdv_facts hv
  have hm : (if (16384 : Int) < (s.length : Int) then (16384 : Int) else (s.length : Int)) = ((min s.length 16384 : Nat) : Int) := by split <;> omega
  have c16 : O17 17 [v, .int .i64 ((min s.length 16384 : Nat) : Int)] st (.sl (bsv (l ++ be4 (min s.length 16384))) (l.length + 4) (.excl 1)) st := by
    refine .inr ⟨rfl, rfl, v, l, _, hv, by omega, rfl, ?_⟩
    rw [clampN_nat _ (by omega)]
  have e1 : strB s = be4 (min s.length 16384) ++ s.take (min s.length 16384) := by
    unfold strB
    congr 1
    by_cases h : s.length ≤ 16384
    · rw [Nat.min_eq_left h, List.take_of_length_le h, List.take_of_length_le (Nat.le_refl _)]
    · rw [Nat.min_eq_right (by omega)]
  have e2 : (s.take (min s.length 16384)).length = min s.length 16384 := by rw [List.length_take]; omega
  have e3 : (bsv (l ++ be4 (min s.length 16384))).length = l.length + 4 := by simp [bsv, be4]
  have hmle : min s.length 16384 ≤ s.length := by omega
  rw [e1]
  generalize min s.length 16384 = m at *
  simp (maxSteps := 2000000) (disch := first | omega | (simp only [List.length_append, List.length_cons, List.length_nil, List.length_map] <;> omega)) only [sf18, hm, hro, hgot, hexc, flg_int, flg_nilS, exc_int, swp_seq, swp_reg, seqK_n, evK_some, appK_eq, srun_nil, srun_cons, stepK_call, swpF_eq, sk_mv, sk_give, sk_lenS, sk_min, get_mk, raw_slot, raw_lit, put_some, wb_nil, ev_mv, ev_give, ev_lenS, ev_min, ro_int, ro_str, ro_nilS, got_int, pubs, pubsFrom, List.map_cons, List.map_nil, List.getD_cons_zero, List.getD_cons_succ, List.set_cons_zero, List.set_cons_succ, List.length_cons, List.length_nil, List.replicate_succ, List.replicate_zero, List.cons_append, List.nil_append, Nat.reduceAdd, Nat.reduceSub, Bool.false_eq_true, ↓reduceIte, Nat.zero_add, List.length_append]
  refine callK_intro c16 ?_
  simp (maxSteps := 2000000) (disch := first | omega | (simp only [List.length_append, List.length_cons, List.length_nil, List.length_map] <;> omega)) only [e2, Int.toNat_natCast, flg_excl, swp_ret, seqK_n, evK_some, appK_eq, appC_eq, srun_nil, srun_cons, fin_ret, sk_mv, sk_give, sk_slcS, sk_app, get_mk, raw_slot, put_some, wb_nil, wb_cons, ev_mv, ev_give, slcS_hi, app_excl_str, ro_int, ro_str, ro_excl, List.map_cons, List.map_nil, List.getD_cons_zero, List.getD_cons_succ, List.set_cons_zero, List.set_cons_succ, List.getElem?_cons_zero, ↓reduceIte]
  refine ⟨_, .same, ?_, rfl⟩
  congr 1
  · simp [bsv]
  · rw [be4_len]; omega
def C17 : List SV → List Ob → SV → List Ob → Prop := fun args st r st' => st' = st ∧ ∃ v l s, rdv v l ∧ l.length ≤ 549755813888 ∧ args = [v, .str s] ∧ r = .sl (bsv (l ++ strB s)) (l.length + (strB s).length) (.excl 1)
def O18 : Orc := O17.add 18 C17
theorem s18 : Sound Proofs.Try.prog O18 := s17.add c18 (by kernel_rfl) (by
  rintro args st r st' ⟨rfl, v, l, n, hv, hl, rfl, rfl⟩
  exact ⟨by simp [sf18], f17 v l n hv hl _⟩)
set_option maxHeartbeats 1000000 in
theorem f18 (v u : SV) (l : List UInt8) (rows : List (List UInt8)) (hv : rdv v l) (hu : rdS u rows) (hrl : rows.length ≤ 1099511627776) (hl : l.length ≤ 274877906944) (st : List Ob) :
    swpF O18 sf19 [v, u] st (fun r st' => r = .sl (bsv (l ++ rowB rows)) (l ++ rowB rows).length (.excl 1) ∧ st' = st) := by
  obtain ⟨hro, hgot, hexc, hflg⟩ := rdv_facts hv
  obtain ⟨hro', hgot', hexc', hflg', hla⟩ := rdL_facts hu
  have hm : (if (256 : Int) < (rows.length : Int) then (256 : Int) else (rows.length : Int)) = ((min rows.length 256 : Nat) : Int) := by split <;> omega
  have c16 : O18 17 [v, .int .i64 ((min rows.length 256 : Nat) : Int)] st (.sl (bsv (l ++ be4 (min rows.length 256))) (l.length + 4) (.excl 1)) st := by
    refine .inl (.inr ⟨rfl, rfl, v, l, _, hv, by omega, rfl, ?_⟩)
    rw [clampN_nat _ (by omega)]
  have hm1 : min rows.length 256 ≤ rows.length := by omega
  have hm2 : min rows.length 256 ≤ 256 := by omega
  have hR : rowB rows = be4 (min rows.length 256) ++ (rows.take (min rows.length 256)).flatMap strB := by
    unfold rowB
    congr 2
    by_cases h : rows.length ≤ 256
    · rw [Nat.min_eq_left h, List.take_of_length_le h, List.take_of_length_le (Nat.le_refl _)]
    · rw [Nat.min_eq_right (by omega)]
  rw [hR]
  generalize min rows.length 256 = m at *
  have hbl : (bsv (l ++ be4 m)).length = l.length + 4 := by simp [bsv, be4]
  simp (maxSteps := 2000000) (disch := first | omega | (simp only [List.length_append, List.length_cons, List.length_nil, List.length_map] <;> omega)) only [sf19, hm, hla, hro, hgot, hexc, hro', flg_int, flg_nilS, exc_int, swp_seq, swp_reg, seqK_n, evK_some, appK_eq, srun_nil, srun_cons, stepK_call, swpF_eq, sk_mv, sk_give, sk_lenL, sk_min, get_mk, raw_slot, raw_lit, put_some, wb_nil, ev_mv, ev_give, ev_min, ro_int, ro_nilS, got_int, pubs, pubsFrom, List.map_cons, List.map_nil, List.getD_cons_zero, List.getD_cons_succ, List.set_cons_zero, List.set_cons_succ, List.length_cons, List.length_nil, List.replicate_succ, List.replicate_zero, List.cons_append, List.nil_append, Nat.reduceAdd, Nat.reduceSub, Bool.false_eq_true, ↓reduceIte, Nat.zero_add, List.length_append]
  refine callK_intro c16 ?_
  simp (maxSteps := 2000000) (disch := first | omega | (simp only [List.length_append, List.length_cons, List.length_nil, List.length_map] <;> omega)) only [flg_excl, exc_int, swp_seq, swp_reg, swp_block, seqK_n, evK_some, appK_eq, appC_eq, srun_nil, srun_cons, sk_take, sk_give, get_mk, raw_slot, raw_lit, put_some, wb_nil, wb_cons, ev_take, ev_give, ro_excl, got_int, List.map_cons, List.map_nil, List.getD_cons_zero, List.getD_cons_succ, List.set_cons_zero, List.set_cons_succ, List.getElem?_cons_zero, Bool.false_eq_true, ↓reduceIte]
  refine swp_lp (fun S => ∃ (i k : Nat) (X : List UInt8) (xs : List SV), i ≤ m ∧ X = l ++ be4 m ++ (rows.take i).flatMap strB ∧ xs = bsv X ∧ k = X.length ∧
      S = ⟨[v, u, .undef, .undef, .nilS, .int .i64 m, .sl xs k (.excl 1), .int .i64 i] ++ List.replicate 18 .undef, st⟩)
      (fun S => match S.get 7 with | .int _ k => ((m : Int) - k).toNat | _ => 0)
      ⟨[v, u, .undef, .undef, .nilS, .int .i64 m, .sl (bsv (l ++ be4 m)) (l.length + 4) (.excl 1), .int .i64 0] ++ List.replicate 18 .undef, st⟩ ?_ ⟨0, l.length + 4, l ++ be4 m, _, by omega, by simp, rfl, by simp [be4], rfl⟩ ?_
  · refine Forget.of ?_
    repeat first | exact fg_e | refine fg_d ?_ | refine fg_k rfl ?_
  rintro S ⟨i, k, X, xs, hi, hXe, rfl, hk, rfl⟩
  by_cases him : i = m
  · subst him
    have hd : decide ((i : Int) < (i : Int)) = false := by simp
    have e1 : X = l ++ (be4 i ++ (rows.take i).flatMap strB) := by rw [hXe]; simp
    simp (maxSteps := 2000000) (disch := first | omega | (simp only [List.length_append, List.length_cons, List.length_nil, List.length_map] <;> omega)) only [hd, lpK_e, flg_excl, swp_seq, swp_reg, swp_ret, swp_exit, swp_cond, seqK_n, seqK_e, blkK_e, condK_f, evK_some, appK_eq, srun_nil, srun_cons, fin_ret, sk_mv, sk_give, sk_bin, get_mk, raw_slot, put_some, wb_nil, wb_cons, ev_mv, ev_give, bin_lss, ro_int, ro_excl, List.map_cons, List.map_nil, List.getD_cons_zero, List.getD_cons_succ, List.set_cons_zero, List.set_cons_succ, List.getElem?_cons_zero, List.replicate_succ, List.replicate_zero, List.cons_append, List.nil_append, ↓reduceIte]
    refine ⟨_, .same, ?_, rfl⟩
    rw [← e1, hk, e1]
    simp only [List.length_append]
  · have hd : decide ((i : Int) < (m : Int)) = true := by simp; omega
    have hil : i < rows.length := by omega
    have hget := ssv_at rows i (rows[i]) (List.getElem?_eq_getElem hil)
    have hua : u = .sl (ssv rows) rows.length .ro := by
      rcases hu with ⟨_, rfl⟩ | h
      · simp at hil
      · exact h
    have hsl := ssv_len rows
    have hXl : X.length ≤ l.length + 4 + m * 16388 := by
      have := flat_len (rows.take i)
      rw [List.length_take, Nat.min_eq_left (by omega)] at this
      rw [hXe]
      simp only [List.length_append]
      have h4 : (be4 m).length = 4 := rfl
      have : i * 16388 ≤ m * 16388 := Nat.mul_le_mul_right _ hi
      omega
    have hf : O18 18 [.sl (bsv X) k .ro, .str rows[i]] st (.sl (bsv (X ++ strB rows[i])) (k + (strB rows[i]).length) (.excl 1)) st := by
      refine .inr ⟨rfl, rfl, _, X, _, .inr ?_, by omega, rfl, ?_⟩
      · rw [hk]
      · rw [hk]
    clear hla hgot' hexc' hflg' hro'
    subst hua
    simp (maxSteps := 2000000) (disch := first | omega | (simp only [List.length_append, List.length_cons, List.length_nil, List.length_map] <;> omega)) only [hd, hget, Int.toNat_natCast, exc_str, exc_excl, swp_seq, swp_reg, swp_skip, swp_block, swp_cond, seqK_n, condK_t, evK_some, appK_eq, srun_nil, srun_cons, stepK_call, sk_mv, sk_bin, sk_idxA, sk_load, get_mk, raw_slot, put_some, wb_nil, ev_mv, bin_lss, ev_loadE, idxA_ro, ro_int, ro_str, ro_ro, ro_excl, got_excl, got_str, pub_excl, pubs, pubsFrom, List.map_cons, List.map_nil, List.getD_cons_zero, List.getD_cons_succ, List.set_cons_zero, List.set_cons_succ, List.replicate_succ, List.replicate_zero, List.cons_append, List.nil_append, Bool.false_eq_true, Option.map_some, ↓reduceIte, Nat.mul_one]
    refine callK_intro hf ?_
    simp (maxSteps := 2000000) (disch := first | omega | (simp only [List.length_append, List.length_cons, List.length_nil, List.length_map] <;> omega)) only [lpK_n, flg_int, flg_excl, swp_reg, seqK_n, blkK_n, evK_some, appK_eq, appC_eq, srun_nil, srun_cons, sk_mv, sk_give, sk_bin, get_mk, raw_slot, raw_lit, put_some, wb_nil, wb_cons, ev_mv, ev_give, bin_add, ro_int, ro_excl, List.map_cons, List.map_nil, List.getD_cons_zero, List.getD_cons_succ, List.set_cons_zero, List.set_cons_succ, List.getElem?_cons_zero, Bool.false_eq_true, ↓reduceIte, wrap_i64]
    refine ⟨_, ?_, ⟨i + 1, k + (strB rows[i]).length, X ++ strB rows[i], _, by omega, ?_, rfl, ?_, rfl⟩, ?_⟩
    · refine Forget.of ?_
      repeat first | exact fg_e | refine fg_d ?_ | refine fg_k rfl ?_
    · rw [hXe, ← List.take_append_getElem hil, List.flatMap_append]
      simp only [List.flatMap_cons, List.flatMap_nil, List.append_nil, List.append_assoc]
    · simp [hk]
    · show ((m : Int) - ((i + 1 : Nat) : Int)).toNat < ((m : Int) - (i : Int)).toNat
      omega
def C18 : List SV → List Ob → SV → List Ob → Prop := fun args st r st' => st' = st ∧ ∃ v u l rows, rdv v l ∧ rdS u rows ∧ rows.length ≤ 1099511627776 ∧ l.length ≤ 274877906944 ∧ args = [v, u] ∧ r = .sl (bsv (l ++ rowB rows)) (l ++ rowB rows).length (.excl 1)
def O19 : Orc := O18.add 19 C18
theorem s19 : Sound Proofs.Try.prog O19 := s18.add c19 (by kernel_rfl) (by
  rintro args st r st' ⟨rfl, v, u, l, rows, hv, hu, hrl, hl, rfl, rfl⟩
  exact ⟨by simp [sf19], f18 v u l rows hv hu hrl hl _⟩)
theorem f20 (O : Orc) (s : List UInt8) (n : Int) (st : List Ob) : swpF O sf21 [.str s, .int .i64 n] st (fun r st' => r = .bool (decide ((s.length : Int) ≤ minI n 16384)) ∧ st' = st) := by
  by_cases h1 : (s.length : Int) ≤ n
  · have d1 : decide ((s.length : Int) ≤ n) = true := by simpa using h1
    have e : decide ((s.length : Int) ≤ 16384) = decide ((s.length : Int) ≤ minI n 16384) := by
      rw [Bool.eq_iff_iff]; simp only [decide_eq_true_eq]; unfold minI; split <;> omega
    simp (maxSteps := 2000000) (disch := first | omega | (simp only [List.length_append, List.length_cons, List.length_nil, List.length_map] <;> omega)) only [sf21, d1, grd_t, ev_pick, flg_bool, exc_str, swp_seq, swp_reg, swp_ret, seqK_n, evK_some, appK_eq, grd_t, srun_nil, srun_cons, stepK_grd, fin_ret, swpF_eq, sk_mv, sk_take, sk_give, sk_pick, sk_bin, sk_lenS, get_mk, raw_slot, raw_lit, put_some, wb_nil, ev_mv, ev_take, ev_give, ev_pick, ev_lenS, bin_leq, ro_int, ro_bool, ro_str, got_str, List.map_cons, List.map_nil, List.getD_cons_zero, List.getD_cons_succ, List.set_cons_zero, List.set_cons_succ, List.length_cons, List.length_nil, List.replicate_succ, List.replicate_zero, List.cons_append, List.nil_append, Nat.reduceAdd, Nat.reduceSub, Bool.false_eq_true, ↓reduceIte, Nat.zero_add]
    exact ⟨_, .same, by rw [e], rfl⟩
  · have d1 : decide ((s.length : Int) ≤ n) = false := by simpa using h1
    have e : false = decide ((s.length : Int) ≤ minI n 16384) := by
      rw [Bool.eq_iff_iff]; simp only [decide_eq_true_eq]; unfold minI; split <;> simp <;> omega
    simp (maxSteps := 2000000) (disch := first | omega | (simp only [List.length_append, List.length_cons, List.length_nil, List.length_map] <;> omega)) only [sf21, d1, grd_t, ev_pick, flg_bool, swp_seq, swp_reg, swp_ret, seqK_n, evK_some, appK_eq, grd_t, srun_nil, srun_cons, stepK_grd, fin_ret, swpF_eq, sk_mv, sk_give, sk_pick, sk_bin, sk_lenS, get_mk, raw_slot, raw_lit, put_some, wb_nil, ev_mv, ev_give, ev_pick, ev_lenS, bin_leq, ro_int, ro_bool, ro_str, List.map_cons, List.map_nil, List.getD_cons_zero, List.getD_cons_succ, List.set_cons_zero, List.set_cons_succ, List.length_cons, List.length_nil, List.replicate_succ, List.replicate_zero, List.cons_append, List.nil_append, Nat.reduceAdd, Nat.reduceSub, Bool.false_eq_true, ↓reduceIte, Nat.zero_add]
    exact ⟨_, .same, by rw [← e], rfl⟩
def C20 : List SV → List Ob → SV → List Ob → Prop := fun args st r st' => ∃ s n, args = [.str s, .int .i64 n] ∧ r = .bool (decide ((s.length : Int) ≤ minI n 16384)) ∧ st' = st
def O20 : Orc := O19.add 21 C20
theorem s20 : Sound Proofs.Try.prog O20 := s19.add c21 (by kernel_rfl) (by
  rintro args st r st' ⟨s, n, rfl, rfl, rfl⟩
  exact ⟨by simp [sf21], f20 _ s n _⟩)
end Go.Sh.F
