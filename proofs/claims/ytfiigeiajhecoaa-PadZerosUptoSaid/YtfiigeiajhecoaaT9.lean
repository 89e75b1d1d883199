/-
  Rows of strings written, held against each other, and counted, in the shadow machine.
-/
import Derived.Test.YtfiigeiajhecoaaT8
set_option linter.unusedSimpArgs false
set_option linter.unusedVariables false
namespace Go.Sh.F
theorem rdv_facts {v : SV} {l : List UInt8} (h : rdv v l) : ro v = v ∧ got v = v ∧ exc v = false ∧ flg v = false := by
  rcases h with ⟨rfl, _⟩ | rfl <;> exact ⟨rfl, rfl, rfl, rfl⟩
theorem rdv_isBs {v : SV} {l : List UInt8} (h : rdv v l) : isBs v l := by
  rcases h with h | rfl
  · exact .inl h
  · exact .inr ⟨_, .inl rfl, rfl⟩
/-- A row of strings that stays as it is. -/
def rdS (v : SV) (l : List (List UInt8)) : Prop := (v = .nilS ∧ l = []) ∨ v = .sl (ssv l) l.length .ro
theorem rdS_facts {v : SV} {l : List (List UInt8)} (h : rdS v l) : ro v = v ∧ got v = v ∧ exc v = false ∧ flg v = false := by
  rcases h with ⟨rfl, _⟩ | rfl <;> exact ⟨rfl, rfl, rfl, rfl⟩
theorem ssv_take (l : List (List UInt8)) (n : Nat) : (ssv l).take n = ssv (l.take n) := by simp [ssv, List.map_take]
theorem ssv_at (l : List (List UInt8)) (i : Nat) (x : List UInt8) (h : l[i]? = some x) : (ssv l)[i]? = some (.str x) := by simp [ssv, h]
def rowB (l : List (List UInt8)) : List UInt8 := be4 (min l.length 256) ++ (l.take 256).flatMap strB
theorem strB_len (s : List UInt8) : (strB s).length ≤ 16388 := by
  simp [strB, be4]; omega
theorem flat_len : ∀ (l : List (List UInt8)), (l.flatMap strB).length ≤ l.length * 16388
  | [] => by simp
  | a :: l => by
    have := flat_len l
    have := strB_len a
    simp only [List.flatMap_cons, List.length_append, List.length_cons]
    omega
set_option maxHeartbeats 1000000 in
theorem f15 (v u : SV) (l : List UInt8) (rows : List (List UInt8)) (hv : rdv v l) (hu : rdS u rows) (hl : l.length ≤ 274877906944) (st : List Ob) :
    swpF O12 sf16 [v, u] st (fun r st' => r = .sl (bsv (l ++ rowB rows)) (l ++ rowB rows).length (.excl 1) ∧ st' = st) := by
  obtain ⟨hro, hgot, hexc, hflg⟩ := rdv_facts hv
  have old : ∀ {g args st r st'}, O6 g args st r st' → O12 g args st r st' := fun h => .inl (.inl (.inl (.inl (.inl (.inl h)))))
  have key : ∀ m : Nat, m ≤ 256 → O12 14 [v, .int .i64 m] st (.sl (bsv (l ++ be4 m)) (l.length + 4) (.excl 1)) st := by
    intro m hm
    refine old (.inl (.inl (.inl (.inl (.inr ⟨rfl, rfl, v, l, _, rdv_isBs hv, by omega, rfl, ?_⟩)))))
    rw [clampN_nat _ (by omega)]
  rcases hu with ⟨rfl, rfl⟩ | rfl
  · have k0 : O12 14 [v, .int .i64 0] st (.sl (bsv (l ++ be4 0)) (l.length + 4) (.excl 1)) st := key 0 (by omega)
    simp (maxSteps := 2000000) (disch := first | omega | (simp only [List.length_append, List.length_cons, List.length_nil, List.length_map] <;> omega)) only [sf16, hro, hgot, hexc, flg_nilS, exc_int, swp_seq, swp_reg, seqK_n, evK_some, appK_eq, srun_nil, srun_cons, stepK_call, swpF_eq, sk_mv, sk_give, sk_lenL, sk_min, sk_slcL, get_mk, raw_slot, raw_lit, put_some, wb_nil, ev_mv, ev_give, ev_lenN, ev_min, slcL_nil_hi, ro_nilS, got_int, pubs, pubsFrom, List.map_cons, List.map_nil, List.getD_cons_zero, List.getD_cons_succ, List.set_cons_zero, List.set_cons_succ, List.length_cons, List.length_nil, List.replicate_succ, List.replicate_zero, List.cons_append, List.nil_append, Nat.reduceAdd, Nat.reduceSub, Bool.false_eq_true, ↓reduceIte, Nat.zero_add, Int.reduceLT, List.length_append]
    refine callK_intro k0 ?_
    simp (maxSteps := 2000000) (disch := first | omega | (simp only [List.length_append, List.length_cons, List.length_nil, List.length_map] <;> omega)) only [flg_excl, swp_seq, swp_reg, swp_block, seqK_n, evK_some, appK_eq, appC_eq, srun_nil, srun_cons, sk_mv, sk_give, sk_lenL, get_mk, raw_slot, raw_lit, put_some, wb_nil, wb_cons, ev_mv, ev_give, ev_lenN, ro_int, ro_nilS, ro_excl, List.map_cons, List.map_nil, List.getD_cons_zero, List.getD_cons_succ, List.set_cons_zero, List.set_cons_succ, List.getElem?_cons_zero, ↓reduceIte]
    refine swp_unroll 1 ?_
    simp (maxSteps := 2000000) (disch := first | omega | (simp only [List.length_append, List.length_cons, List.length_nil, List.length_map] <;> omega)) only [flg_excl, swp_seq, swp_reg, swp_ret, swp_exit, swp_cond, seqK_n, seqK_e, blkK_e, condK_f, evK_some, appK_eq, srun_nil, srun_cons, fin_ret, sk_mv, sk_give, sk_bin, get_mk, raw_slot, put_some, wb_nil, wb_cons, ev_mv, ev_give, bin_lss, unr_succ, unrK_e, ro_excl, List.map_cons, List.map_nil, List.getD_cons_zero, List.getD_cons_succ, List.set_cons_zero, List.set_cons_succ, List.getElem?_cons_zero, ↓reduceIte, decide_false, Int.reduceLT]
    exact ⟨_, .same, by simp [rowB, be4], rfl⟩
  · have hm : (if (256 : Int) < (rows.length : Int) then (256 : Int) else (rows.length : Int)) = ((min rows.length 256 : Nat) : Int) := by split <;> omega
    have hsl := ssv_len rows
    have hm1 : min rows.length 256 ≤ rows.length := by omega
    have hm2 : min rows.length 256 ≤ 256 := by omega
    have hrm : (rows.take (min rows.length 256)).length = min rows.length 256 := by simp
    have hR : rowB rows = be4 (min rows.length 256) ++ (rows.take (min rows.length 256)).flatMap strB := by
      unfold rowB
      congr 2
      by_cases h : rows.length ≤ 256
      · rw [Nat.min_eq_left h, List.take_of_length_le h, List.take_of_length_le (Nat.le_refl _)]
      · rw [Nat.min_eq_right (by omega)]
    rw [hR]
    generalize min rows.length 256 = m at *
    simp (maxSteps := 2000000) (disch := first | omega | (simp only [List.length_append, List.length_cons, List.length_nil, List.length_map] <;> omega)) only [sf16, hro, hgot, hexc, hm, ssv_take, Int.toNat_natCast, flg_nilS, flg_ro, exc_int, swp_seq, swp_reg, seqK_n, evK_some, appK_eq, srun_nil, srun_cons, stepK_call, swpF_eq, sk_mv, sk_give, sk_lenL, sk_min, sk_slcL, get_mk, raw_slot, raw_lit, put_some, wb_nil, ev_mv, ev_give, ev_lenL, ev_min, slcL_hi_ro, ro_nilS, ro_ro, got_int, pubs, pubsFrom, List.map_cons, List.map_nil, List.getD_cons_zero, List.getD_cons_succ, List.set_cons_zero, List.set_cons_succ, List.length_cons, List.length_nil, List.replicate_succ, List.replicate_zero, List.cons_append, List.nil_append, Nat.reduceAdd, Nat.reduceSub, Bool.false_eq_true, ↓reduceIte, Nat.mul_one, Nat.zero_add, List.length_append]
    refine callK_intro (key m hm2) ?_
    simp (maxSteps := 2000000) (disch := first | omega | (simp only [List.length_append, List.length_cons, List.length_nil, List.length_map] <;> omega)) only [flg_excl, swp_seq, swp_reg, swp_block, seqK_n, evK_some, appK_eq, appC_eq, srun_nil, srun_cons, sk_mv, sk_give, sk_lenL, get_mk, raw_slot, raw_lit, put_some, wb_nil, wb_cons, ev_mv, ev_give, ev_lenL, ro_int, ro_ro, ro_excl, List.map_cons, List.map_nil, List.getD_cons_zero, List.getD_cons_succ, List.set_cons_zero, List.set_cons_succ, List.getElem?_cons_zero, ↓reduceIte]
    clear hm hR key
    generalize rows.take m = rm at *
    clear hsl
    have hsl := ssv_len rm
    rw [hrm] at hsl
    have hbl : (bsv (l ++ be4 m)).length = l.length + 4 := by simp [bsv, be4]
    have hX := flat_len rm
    rw [hrm] at hX
    refine swp_lp (fun S => ∃ (i k : Nat) (X : List UInt8) (xs : List SV), i ≤ m ∧ X = l ++ be4 m ++ (rm.take i).flatMap strB ∧ xs = bsv X ∧ k = X.length ∧
      S = ⟨[v, .sl (ssv rm) m .ro, .undef, .undef, .nilS, .sl xs k (.excl 1), .undef, .undef] ++ List.replicate 9 .undef ++ [.sl (ssv rm) m .ro, .int .i64 m, .int .i64 i] ++ List.replicate 8 .undef, st⟩)
      (fun S => match S.get 19 with | .int _ k => ((m : Int) - k).toNat | _ => 0)
      ⟨[v, .sl (ssv rm) m .ro, .undef, .undef, .nilS, .sl (bsv (l ++ be4 m)) (l.length + 4) (.excl 1), .undef, .undef] ++ List.replicate 9 .undef ++ [.sl (ssv rm) m .ro, .int .i64 m, .int .i64 0] ++ List.replicate 8 .undef, st⟩ ?_ ⟨0, l.length + 4, l ++ be4 m, _, by omega, by simp, rfl, by simp [be4], rfl⟩ ?_
    · refine Forget.of ?_
      repeat first | exact fg_e | refine fg_d ?_ | refine fg_k rfl ?_
    rintro S ⟨i, k, X, xs, hi, hXe, rfl, hk, rfl⟩
    by_cases him : i = m
    · subst him
      have hd : decide ((i : Int) < (i : Int)) = false := by simp
      have e1 : X = l ++ (be4 i ++ rm.flatMap strB) := by rw [hXe, List.take_of_length_le (by omega)]; simp
      simp (maxSteps := 2000000) (disch := first | omega | (simp only [List.length_append, List.length_cons, List.length_nil, List.length_map] <;> omega)) only [hd, lpK_e, flg_excl, swp_seq, swp_reg, swp_ret, swp_exit, swp_cond, seqK_n, seqK_e, blkK_e, condK_f, evK_some, appK_eq, srun_nil, srun_cons, fin_ret, sk_mv, sk_give, sk_bin, get_mk, raw_slot, put_some, wb_nil, wb_cons, ev_mv, ev_give, bin_lss, ro_excl, List.map_cons, List.map_nil, List.getD_cons_zero, List.getD_cons_succ, List.set_cons_zero, List.set_cons_succ, List.getElem?_cons_zero, List.replicate_succ, List.replicate_zero, List.cons_append, List.nil_append, ↓reduceIte]
      refine ⟨_, .same, ?_, rfl⟩
      rw [← e1, hk, e1]
      simp only [List.length_append]
    · have hd : decide ((i : Int) < (m : Int)) = true := by simp; omega
      have hil : i < rm.length := by omega
      have hget := ssv_at rm i (rm[i]) (List.getElem?_eq_getElem hil)
      have hXl : X.length ≤ l.length + 4 + m * 16388 := by
        have := flat_len (rm.take i)
        rw [List.length_take, Nat.min_eq_left (by omega)] at this
        rw [hXe]
        simp only [List.length_append]
        have h4 : (be4 m).length = 4 := rfl
        have : i * 16388 ≤ m * 16388 := Nat.mul_le_mul_right _ hi
        omega
      have hf : O12 15 [.sl (bsv X) k .ro, .str rm[i]] st (.sl (bsv (X ++ strB rm[i])) (k + (strB rm[i]).length) (.excl 1)) st := by
        refine old (.inl (.inl (.inl (.inr ⟨rfl, rfl, _, X, _, .inr ⟨_, .inl rfl, ?_⟩, by omega, rfl, ?_⟩))))
        · rw [hk]
        · rw [hk]
      simp (maxSteps := 2000000) (disch := first | omega | (simp only [List.length_append, List.length_cons, List.length_nil, List.length_map] <;> omega)) only [hd, hget, Int.toNat_natCast, flg_str, exc_str, exc_excl, sk_idxB, idxB_ro, swp_seq, swp_reg, swp_skip, swp_block, swp_cond, seqK_n, condK_t, evK_some, appK_eq, srun_nil, srun_cons, stepK_call, sk_mv, sk_give, sk_bin, sk_load, get_mk, raw_slot, put_some, wb_nil, ev_mv, ev_give, bin_lss, ev_loadE, ro_str, ro_excl, got_excl, got_str, pub_excl, pubs, pubsFrom, List.map_cons, List.map_nil, List.getD_cons_zero, List.getD_cons_succ, List.set_cons_zero, List.set_cons_succ, List.replicate_succ, List.replicate_zero, List.cons_append, List.nil_append, Bool.false_eq_true, Option.map_some, ↓reduceIte, Nat.mul_one]
      refine callK_intro hf ?_
      simp (maxSteps := 2000000) (disch := first | omega | (simp only [List.length_append, List.length_cons, List.length_nil, List.length_map] <;> omega)) only [lpK_n, flg_excl, swp_reg, seqK_n, blkK_n, evK_some, appK_eq, appC_eq, srun_nil, srun_cons, sk_mv, sk_give, sk_bin, get_mk, raw_slot, raw_lit, put_some, wb_nil, wb_cons, ev_mv, ev_give, bin_add, ro_int, ro_excl, List.map_cons, List.map_nil, List.getD_cons_zero, List.getD_cons_succ, List.set_cons_zero, List.set_cons_succ, List.getElem?_cons_zero, ↓reduceIte, wrap_i64]
      refine ⟨_, ?_, ⟨i + 1, k + (strB rm[i]).length, X ++ strB rm[i], _, by omega, ?_, rfl, ?_, rfl⟩, ?_⟩
      · refine Forget.of ?_
        repeat first | exact fg_e | refine fg_d ?_ | refine fg_k rfl ?_
      · rw [hXe, ← List.take_append_getElem hil, List.flatMap_append]
        simp only [List.flatMap_cons, List.flatMap_nil, List.append_nil, List.append_assoc]
      · simp [hk]
      · show ((m : Int) - ((i + 1 : Nat) : Int)).toNat < ((m : Int) - (i : Int)).toNat
        omega
def C15 : List SV → List Ob → SV → List Ob → Prop := fun args st r st' => st' = st ∧ ∃ v u l rows, rdv v l ∧ rdS u rows ∧ l.length ≤ 274877906944 ∧ args = [v, u] ∧ r = .sl (bsv (l ++ rowB rows)) (l ++ rowB rows).length (.excl 1)
def O13 : Orc := O12.add 16 C15
theorem s13 : Sound Proofs.Try.prog O13 := s12.add c16 (by kernel_rfl) (by
  rintro args st r st' ⟨rfl, v, u, l, rows, hv, hu, hl, rfl, rfl⟩
  exact ⟨by simp [sf16], f15 v u l rows hv hu hl _⟩)

/-! Two rows: alike? -/
set_option maxHeartbeats 1000000 in
theorem f26 (O : Orc) (v u : SV) (a b : List (List UInt8)) (hv : rdS v a) (hu : rdS u b) (hal : a.length ≤ 1099511627776) (st : List Ob) :
    swpF O sf27 [v, u] st (fun r st' => r = .bool (decide (a = b)) ∧ st' = st) := by
  have hla : ∀ {w : SV} {l : List (List UInt8)} {st : List Ob}, rdS w l → ev st .lenL [w] = some (.int .i64 l.length, [], st) := by
    rintro w l st (⟨rfl, rfl⟩ | rfl)
    · exact ev_lenN
    · exact ev_lenL
  have hv1 := hla (st := st) hv
  have hu1 := hla (st := st) hu
  obtain ⟨hro, hgot, hexc, hflg⟩ := rdS_facts hv
  obtain ⟨hro', hgot', hexc', hflg'⟩ := rdS_facts hu
  by_cases hlen : a.length = b.length
  case neg =>
    have hd : ((a.length : Int) != (b.length : Int)) = true := by simp; omega
    have hne : decide (a = b) = false := by simp; intro h; exact hlen (by rw [h])
    rw [hne]
    simp (maxSteps := 2000000) (disch := first | omega | (simp only [List.length_append, List.length_cons, List.length_nil, List.length_map] <;> omega)) only [sf27, hro, hro', hv1, hu1, hd, flg_bool, swp_seq, swp_reg, swp_ret, swp_cond, seqK_n, seqK_r, condK_t, evK_some, appK_eq, srun_nil, srun_cons, fin_ret, swpF_eq, sk_mv, sk_give, sk_bin, sk_lenL, get_mk, raw_slot, raw_lit, put_some, wb_nil, ev_mv, ev_give, bin_neq, ro_bool, List.map_cons, List.map_nil, List.getD_cons_zero, List.getD_cons_succ, List.set_cons_zero, List.set_cons_succ, List.length_cons, List.length_nil, List.replicate_succ, List.replicate_zero, List.cons_append, List.nil_append, Nat.reduceAdd, Nat.reduceSub, true_and, Bool.false_eq_true, ↓reduceIte, Nat.zero_add]
    exact ⟨_, .same, rfl⟩
  have hd : ((a.length : Int) != (b.length : Int)) = false := by simp; omega
  simp (maxSteps := 2000000) (disch := first | omega | (simp only [List.length_append, List.length_cons, List.length_nil, List.length_map] <;> omega)) only [sf27, hro, hro', hv1, hu1, hd, flg_bool, exc_int, swp_seq, swp_reg, swp_skip, swp_block, swp_cond, seqK_n, condK_f, evK_some, appK_eq, srun_nil, srun_cons, swpF_eq, sk_mv, sk_take, sk_give, sk_bin, sk_lenL, get_mk, raw_slot, raw_lit, put_some, wb_nil, ev_mv, ev_take, ev_give, bin_neq, ro_bool, got_int, List.map_cons, List.map_nil, List.getD_cons_zero, List.getD_cons_succ, List.set_cons_zero, List.set_cons_succ, List.length_cons, List.length_nil, List.replicate_succ, List.replicate_zero, List.cons_append, List.nil_append, Nat.reduceAdd, Nat.reduceSub, Bool.false_eq_true, ↓reduceIte, Nat.zero_add]
  refine swp_lp (fun S => ∃ i : Nat, i ≤ a.length ∧ a.take i = b.take i ∧
      S = ⟨[v, u, .undef, .undef, .bool false, .int .i64 i] ++ List.replicate 20 .undef, st⟩)
      (fun S => match S.get 5 with | .int _ k => ((a.length : Int) - k).toNat | _ => 0)
      ⟨[v, u, .undef, .undef, .bool false, .int .i64 0] ++ List.replicate 20 .undef, st⟩ ?_ ⟨0, by omega, by simp, rfl⟩ ?_
  · refine Forget.of ?_
    repeat first | exact fg_e | refine fg_d ?_ | refine fg_k rfl ?_
  rintro S ⟨i, hi, htk, rfl⟩
  by_cases him : i = a.length
  · have hd : decide ((i : Int) < (a.length : Int)) = false := by simp; omega
    have he : decide (a = b) = true := by
      rw [List.take_of_length_le (by omega), List.take_of_length_le (by omega)] at htk
      simpa using htk
    rw [he]
    simp (maxSteps := 2000000) (disch := first | omega | (simp only [List.length_append, List.length_cons, List.length_nil, List.length_map] <;> omega)) only [hro, hv1, hd, lpK_e, flg_bool, swp_seq, swp_reg, swp_ret, swp_exit, swp_cond, seqK_n, seqK_e, blkK_e, condK_f, evK_some, appK_eq, srun_nil, srun_cons, fin_ret, sk_mv, sk_give, sk_bin, sk_lenL, get_mk, raw_slot, raw_lit, put_some, wb_nil, ev_mv, ev_give, bin_lss, ro_int, ro_bool, List.map_cons, List.map_nil, List.getD_cons_zero, List.getD_cons_succ, List.set_cons_zero, List.set_cons_succ, List.replicate_succ, List.replicate_zero, List.cons_append, List.nil_append, true_and, Bool.false_eq_true, ↓reduceIte]
    exact ⟨_, .same, rfl⟩
  · have hd : decide ((i : Int) < (a.length : Int)) = true := by simp; omega
    have hia : i < a.length := by omega
    have hib : i < b.length := by omega
    have hga := ssv_at a i (a[i]) (List.getElem?_eq_getElem hia)
    have hgb := ssv_at b i (b[i]) (List.getElem?_eq_getElem hib)
    have hva : v = .sl (ssv a) a.length .ro := by
      rcases hv with ⟨_, rfl⟩ | h
      · simp at hia
      · exact h
    have hub : u = .sl (ssv b) b.length .ro := by
      rcases hu with ⟨_, rfl⟩ | h
      · simp at hib
      · exact h
    have hsa := ssv_len a
    have hsb := ssv_len b
    subst hva hub
    by_cases hx : a[i] = b[i]
    · have hxb : (a[i] == b[i]) = true := by simpa using hx
      simp (maxSteps := 2000000) (disch := first | omega | (simp only [List.length_append, List.length_cons, List.length_nil, List.length_map] <;> omega)) only [hd, hga, hgb, hxb, lpK_n, Int.toNat_natCast, flg_int, swp_seq, swp_reg, swp_skip, swp_block, swp_cond, seqK_n, blkK_n, condK_t, condK_f, evK_some, appK_eq, srun_nil, srun_cons, sk_mv, sk_give, sk_bin, sk_idxA, sk_load, sk_lenL, get_mk, raw_slot, raw_lit, put_some, wb_nil, ev_mv, ev_give, ev_lenL, bin_add, bin_lss, bin_neqS, ev_loadE, idxA_ro, ro_int, ro_str, ro_ro, List.map_cons, List.map_nil, List.getD_cons_zero, List.getD_cons_succ, List.set_cons_zero, List.set_cons_succ, List.replicate_succ, List.replicate_zero, List.cons_append, List.nil_append, Bool.false_eq_true, Option.map_some, ↓reduceIte, Nat.mul_one, Bool.not_true, wrap_i64]
      refine ⟨_, ?_, ⟨i + 1, by omega, ?_, rfl⟩, ?_⟩
      · refine Forget.of ?_
        repeat first | exact fg_e | refine fg_d ?_ | refine fg_k rfl ?_
      · rw [← List.take_append_getElem hia, ← List.take_append_getElem hib, htk, hx]
      · show ((a.length : Int) - ((i + 1 : Nat) : Int)).toNat < ((a.length : Int) - (i : Int)).toNat
        omega
    · have hxb : (a[i] == b[i]) = false := by simpa using hx
      have hne : decide (a = b) = false := by
        simp
        intro h
        subst h
        exact hx rfl
      rw [hne]
      simp (maxSteps := 2000000) (disch := first | omega | (simp only [List.length_append, List.length_cons, List.length_nil, List.length_map] <;> omega)) only [hd, hga, hgb, hxb, lpK_r, Int.toNat_natCast, flg_bool, swp_seq, swp_reg, swp_skip, swp_ret, swp_block, swp_cond, seqK_n, seqK_r, blkK_r, condK_t, evK_some, appK_eq, srun_nil, srun_cons, fin_ret, sk_mv, sk_give, sk_bin, sk_idxA, sk_load, sk_lenL, get_mk, raw_slot, raw_lit, put_some, wb_nil, ev_mv, ev_give, ev_lenL, bin_lss, bin_neqS, ev_loadE, idxA_ro, ro_int, ro_bool, ro_str, ro_ro, List.map_cons, List.map_nil, List.getD_cons_zero, List.getD_cons_succ, List.set_cons_zero, List.set_cons_succ, List.replicate_succ, List.replicate_zero, List.cons_append, List.nil_append, true_and, Bool.false_eq_true, Option.map_some, ↓reduceIte, Nat.mul_one, Bool.not_false]
      exact ⟨_, .same, rfl⟩
def C26 : List SV → List Ob → SV → List Ob → Prop := fun args st r st' => st' = st ∧ ∃ v u a b, rdS v a ∧ rdS u b ∧ a.length ≤ 1099511627776 ∧ args = [v, u] ∧ r = .bool (decide (a = b))
def O14 : Orc := O13.add 27 C26
theorem s14 : Sound Proofs.Try.prog O14 := s13.add c27 (by kernel_rfl) (by
  rintro args st r st' ⟨rfl, v, u, a, b, hv, hu, hal, rfl, rfl⟩
  exact ⟨by simp [sf27], f26 _ v u a b hv hu hal _⟩)

/-! How long a row's strings are together. -/
def sumL (l : List (List UInt8)) : Nat := (l.map List.length).sum
theorem sumL_take (l : List (List UInt8)) (i : Nat) (h : i < l.length) : sumL (l.take (i + 1)) = sumL (l.take i) + (l[i]).length := by
  rw [← List.take_append_getElem h, sumL, List.map_append, List.sum_append]
  simp only [List.map_cons, List.map_nil, List.sum_cons, List.sum_nil, Nat.add_zero, sumL]
set_option maxHeartbeats 1000000 in
theorem f12 (O : Orc) (v : SV) (a : List (List UInt8)) (hv : rdS v a) (hal : a.length ≤ 1099511627776) (hs : ∀ i, sumL (a.take i) ≤ 1099511627776) (st : List Ob) :
    swpF O sf13 [v] st (fun r st' => r = .bool (decide (a.length ≤ 300 ∧ sumL a ≤ 20000)) ∧ st' = st) := by
  have hla : ev st .lenL [v] = some (.int .i64 a.length, [], st) := by
    rcases hv with ⟨rfl, rfl⟩ | rfl
    · exact ev_lenN
    · exact ev_lenL
  obtain ⟨hro, hgot, hexc, hflg⟩ := rdS_facts hv
  simp (maxSteps := 2000000) (disch := first | omega | (simp only [List.length_append, List.length_cons, List.length_nil, List.length_map] <;> omega)) only [sf13, flg_bool, exc_int, swp_seq, swp_reg, swp_block, seqK_n, evK_some, appK_eq, srun_nil, srun_cons, swpF_eq, sk_take, sk_give, raw_lit, put_some, wb_nil, ev_take, ev_give, ro_bool, got_int, List.map_cons, List.map_nil, List.set_cons_zero, List.set_cons_succ, List.length_cons, List.length_nil, List.replicate_succ, List.replicate_zero, List.cons_append, List.nil_append, Nat.reduceSub, Bool.false_eq_true, ↓reduceIte, Nat.zero_add]
  refine swp_lp (fun S => ∃ i : Nat, i ≤ a.length ∧
      S = ⟨[v, .undef, .bool false, .int .i64 (sumL (a.take i) : Nat), .int .i64 i] ++ List.replicate 20 .undef, st⟩)
      (fun S => match S.get 4 with | .int _ k => ((a.length : Int) - k).toNat | _ => 0)
      ⟨[v, .undef, .bool false, .int .i64 0, .int .i64 0] ++ List.replicate 20 .undef, st⟩ ?_ ⟨0, by omega, rfl⟩ ?_
  · refine Forget.of ?_
    repeat first | exact fg_e | refine fg_d ?_ | refine fg_k rfl ?_
  rintro S ⟨i, hi, rfl⟩
  have hsi := hs i
  by_cases him : i = a.length
  · have hd : decide ((i : Int) < (a.length : Int)) = false := by simp; omega
    have hsa := hs a.length
    rw [him, List.take_length] at *
    by_cases h1 : a.length ≤ 300
    · have hd1 : decide ((a.length : Int) ≤ 300) = true := by simp; omega
      by_cases h2 : sumL a ≤ 20000
      · have hd2 : decide ((sumL a : Int) ≤ 20000) = true := by simp; omega
        have he : decide (a.length ≤ 300 ∧ sumL a ≤ 20000) = true := by simp [h1, h2]
        rw [he]
        simp (maxSteps := 2000000) (disch := first | omega | (simp only [List.length_append, List.length_cons, List.length_nil, List.length_map] <;> omega)) only [hro, hla, hd, hd1, hd2, grd_t, ev_pick, lpK_e, flg_bool, exc_int, swp_seq, swp_reg, swp_ret, swp_exit, swp_cond, seqK_n, seqK_e, blkK_e, condK_f, evK_some, appK_eq, grd_t, srun_nil, srun_cons, stepK_grd, fin_ret, sk_mv, sk_take, sk_give, sk_pick, sk_bin, sk_lenL, get_mk, raw_slot, raw_lit, put_some, wb_nil, ev_mv, ev_take, ev_give, ev_pick, bin_lss, bin_leq, ro_int, ro_bool, got_int, List.map_cons, List.map_nil, List.getD_cons_zero, List.getD_cons_succ, List.set_cons_zero, List.set_cons_succ, List.replicate_succ, List.replicate_zero, List.cons_append, List.nil_append, true_and, Bool.false_eq_true, ↓reduceIte]
        exact ⟨_, .same, rfl⟩
      · have hd2 : decide ((sumL a : Int) ≤ 20000) = false := by simp; omega
        have he : decide (a.length ≤ 300 ∧ sumL a ≤ 20000) = false := by simp [h1, h2]
        rw [he]
        simp (maxSteps := 2000000) (disch := first | omega | (simp only [List.length_append, List.length_cons, List.length_nil, List.length_map] <;> omega)) only [hro, hla, hd, hd1, hd2, grd_t, ev_pick, lpK_e, flg_bool, exc_int, swp_seq, swp_reg, swp_ret, swp_exit, swp_cond, seqK_n, seqK_e, blkK_e, condK_f, evK_some, appK_eq, grd_t, srun_nil, srun_cons, stepK_grd, fin_ret, sk_mv, sk_take, sk_give, sk_pick, sk_bin, sk_lenL, get_mk, raw_slot, raw_lit, put_some, wb_nil, ev_mv, ev_take, ev_give, ev_pick, bin_lss, bin_leq, ro_int, ro_bool, got_int, List.map_cons, List.map_nil, List.getD_cons_zero, List.getD_cons_succ, List.set_cons_zero, List.set_cons_succ, List.replicate_succ, List.replicate_zero, List.cons_append, List.nil_append, true_and, Bool.false_eq_true, ↓reduceIte]
        exact ⟨_, .same, rfl⟩
    · have hd1 : decide ((a.length : Int) ≤ 300) = false := by simp; omega
      have he : decide (a.length ≤ 300 ∧ sumL a ≤ 20000) = false := by simp [h1]
      rw [he]
      simp (maxSteps := 2000000) (disch := first | omega | (simp only [List.length_append, List.length_cons, List.length_nil, List.length_map] <;> omega)) only [hro, hla, hd, hd1, grd_t, ev_pick, lpK_e, flg_bool, swp_seq, swp_reg, swp_ret, swp_exit, swp_cond, seqK_n, seqK_e, blkK_e, condK_f, evK_some, appK_eq, grd_t, srun_nil, srun_cons, stepK_grd, fin_ret, sk_mv, sk_give, sk_pick, sk_bin, sk_lenL, get_mk, raw_slot, raw_lit, put_some, wb_nil, ev_mv, ev_give, ev_pick, bin_lss, bin_leq, ro_int, ro_bool, List.map_cons, List.map_nil, List.getD_cons_zero, List.getD_cons_succ, List.set_cons_zero, List.set_cons_succ, List.replicate_succ, List.replicate_zero, List.cons_append, List.nil_append, true_and, Bool.false_eq_true, ↓reduceIte]
      exact ⟨_, .same, rfl⟩
  · have hd : decide ((i : Int) < (a.length : Int)) = true := by simp; omega
    have hia : i < a.length := by omega
    have hga := ssv_at a i (a[i]) (List.getElem?_eq_getElem hia)
    have hva : v = .sl (ssv a) a.length .ro := by
      rcases hv with ⟨_, rfl⟩ | h
      · simp at hia
      · exact h
    have hsa := ssv_len a
    have hst := sumL_take a i hia
    have hs1 := hs (i + 1)
    subst hva
    simp (maxSteps := 2000000) (disch := first | omega | (simp only [List.length_append, List.length_cons, List.length_nil, List.length_map] <;> omega)) only [hd, hga, lpK_n, Int.toNat_natCast, flg_int, sk_idxB, idxB_ro, swp_seq, swp_reg, swp_skip, swp_block, swp_cond, seqK_n, blkK_n, condK_t, evK_some, appK_eq, srun_nil, srun_cons, sk_mv, sk_give, sk_bin, sk_load, sk_lenS, sk_lenL, get_mk, raw_slot, raw_lit, put_some, wb_nil, ev_mv, ev_give, ev_lenS, ev_lenL, bin_add, bin_lss, ev_loadE, ro_int, ro_str, ro_ro, List.map_cons, List.map_nil, List.getD_cons_zero, List.getD_cons_succ, List.set_cons_zero, List.set_cons_succ, List.replicate_succ, List.replicate_zero, List.cons_append, List.nil_append, Bool.false_eq_true, Option.map_some, ↓reduceIte, Nat.mul_one, wrap_i64]
    refine ⟨_, ?_, ⟨i + 1, by omega, rfl⟩, ?_⟩
    · refine Forget.of ?_
      rw [hst]
      repeat first | exact fg_e | refine fg_d ?_ | refine fg_k rfl ?_
    · show ((a.length : Int) - ((i + 1 : Nat) : Int)).toNat < ((a.length : Int) - (i : Int)).toNat
      omega
/-- few. -/
def C12 : List SV → List Ob → SV → List Ob → Prop := fun args st r st' => st' = st ∧ ∃ v a, rdS v a ∧ a.length ≤ 1099511627776 ∧ (∀ i, sumL (a.take i) ≤ 1099511627776) ∧ args = [v] ∧ r = .bool (decide (a.length ≤ 300 ∧ sumL a ≤ 20000))
def O15 : Orc := O14.add 13 C12
theorem s15 : Sound Proofs.Try.prog O15 := s14.add c13 (by kernel_rfl) (by
  rintro args st r st' ⟨rfl, v, a, hv, hal, hs, rfl, rfl⟩
  exact ⟨by simp [sf13], f12 _ v a hv hal hs _⟩)
end Go.Sh.F
