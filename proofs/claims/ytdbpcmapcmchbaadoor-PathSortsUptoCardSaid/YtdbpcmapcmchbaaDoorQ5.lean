/-
  Paths: the document's Right to Sorted, in the shadow machine.
-/
import Derived.Test.YtdbpcmapcmchbaaDoorQ4
set_option linter.unusedSimpArgs false
set_option linter.unusedVariables false
namespace Go.Sh.F
open Go.PathLaw Go.Proofs
def KCut : List SV → SV → Prop := fun args r => ∃ s : List UInt8, sm s ∧ args = [.str s] ∧ r = .sl (ssv (spl s)) (spl s).length (.excl 1)
def O15 : Orc := O14.add 28 (FnC KCut)
theorem s15 : Sound Tryd.prog O15 := s14.addP c28 (by kernel_rfl) (by
  rintro args r ⟨s, hs, rfl, rfl⟩
  exact ⟨by simp [sf28], fun st => f28 _ s hs st⟩)
set_option maxHeartbeats 8000000 in
theorem f17 (s : List UInt8) (hs : sm s) (st : List Ob) : swpF O15 sf17 [.str s] st (fun r st' => r = .bool (rightB s) ∧ st' = st) := by
  have hll := spl_length_le s
  simp (maxSteps := 2000000) (disch := first | omega | (simp only [List.length_append, List.length_cons, List.length_nil, List.length_map] <;> omega)) only [sf17, flg_bool, exc_str, swp_seq, swp_reg, seqK_n, evK_some, appK_eq, srun_nil, srun_cons, stepK_call, swpF_eq, sk_mv, sk_give, get_mk, raw_slot, raw_lit, put_some, wb_nil, ev_mv, ev_give, ro_bool, ro_str, got_str, pubs, pubsFrom, List.map_cons, List.map_nil, List.getD_cons_zero, List.set_cons_zero, List.set_cons_succ, List.length_cons, List.length_nil, List.replicate_succ, List.replicate_zero, List.cons_append, List.nil_append, Nat.reduceSub, Bool.false_eq_true, ↓reduceIte, Nat.zero_add]
  refine callK_intro (Orc.here ⟨s, hs, rfl, rfl⟩) ?_
  by_cases h4 : (spl s).length ≤ 4
  case neg =>
    have d1 : decide ((4 : Int) < ((spl s).length : Int)) = true := by rw [decide_eq_true_eq]; omega
    have hr : rightB s = false := by rw [rightB, decide_eq_false h4]; rfl
    rw [hr]
    simp (maxSteps := 2000000) (disch := first | omega | (simp only [List.length_append, List.length_cons, List.length_nil, List.length_map] <;> omega)) only [d1, flg_bool, flg_excl, swp_seq, swp_reg, swp_ret, swp_cond, seqK_n, seqK_r, condK_t, evK_some, appK_eq, appC_eq, srun_nil, srun_cons, fin_ret, sk_mv, sk_give, sk_bin, sk_lenL, get_mk, raw_slot, raw_lit, put_some, wb_nil, wb_cons, ev_mv, ev_give, ev_lenL, bin_gtr, ro_bool, ro_excl, List.map_cons, List.map_nil, List.getD_cons_zero, List.getD_cons_succ, List.set_cons_zero, List.set_cons_succ, List.getElem?_cons_zero, true_and, Bool.false_eq_true, ↓reduceIte, gt_iff_lt]
    first | exact ⟨_, .same⟩ | exact ⟨_, .same, rfl⟩ | exact ⟨_, .same, rfl, rfl⟩
  have d1 : decide ((4 : Int) < ((spl s).length : Int)) = false := by rw [decide_eq_false_iff_not]; omega
  have hr : rightB s = (spl s).all nameB := by rw [rightB, decide_eq_true h4, Bool.true_and]
  have hm : ∀ x ∈ spl s, sm x := fun x hx => spl_sm hs hx
  rw [hr]
  generalize spl s = l at *
  have hsl := ssv_len l
  simp (maxSteps := 2000000) (disch := first | omega | (simp only [List.length_append, List.length_cons, List.length_nil, List.length_map] <;> omega)) only [d1, flg_excl, exc_int, swp_seq, swp_reg, swp_skip, swp_block, swp_cond, seqK_n, condK_f, evK_some, appK_eq, appC_eq, srun_nil, srun_cons, sk_mv, sk_take, sk_give, sk_bin, sk_lenL, get_mk, raw_slot, raw_lit, put_some, wb_nil, wb_cons, ev_mv, ev_take, ev_give, ev_lenL, bin_gtr, ro_excl, got_int, List.map_cons, List.map_nil, List.getD_cons_zero, List.getD_cons_succ, List.set_cons_zero, List.set_cons_succ, List.getElem?_cons_zero, Bool.false_eq_true, ↓reduceIte, gt_iff_lt]
  refine swp_lp (fun S => ∃ (i : Nat) (fl : Fl), i ≤ l.length ∧ (fl = .excl 1 ∨ fl = .own 1) ∧ (l.take i).all nameB = true ∧
      S = ⟨[.str s, .undef, .bool false, .sl (ssv l) l.length fl, .int .i64 i] ++ List.replicate 17 .undef, st⟩)
      (fun S => match S.get 4 with | .int _ k => ((l.length : Int) - k).toNat | _ => 0)
      ⟨[.str s, .undef, .bool false, .sl (ssv l) l.length (.excl 1), .int .i64 0] ++ List.replicate 17 .undef, st⟩ ?_ ⟨0, .excl 1, Nat.zero_le _, .inl rfl, rfl, rfl⟩ ?_
  · refine Forget.of ?_
    repeat first | exact fg_e | refine fg_d ?_ | refine fg_k rfl ?_
  rintro S ⟨i, fl, hi, hfl, hall, rfl⟩
  by_cases him : i = l.length
  · have hd : decide ((i : Int) < (l.length : Int)) = false := by rw [decide_eq_false_iff_not]; omega
    rw [him, List.take_length] at hall
    rw [hall]
    rcases hfl with rfl | rfl
    · simp (maxSteps := 2000000) (disch := first | omega | (simp only [List.length_append, List.length_cons, List.length_nil, List.length_map] <;> omega)) only [hd, lpK_e, flg_bool, swp_seq, swp_reg, swp_ret, swp_exit, swp_cond, seqK_n, seqK_e, blkK_e, condK_f, evK_some, appK_eq, srun_nil, srun_cons, fin_ret, sk_mv, sk_give, sk_bin, sk_lenL, get_mk, raw_slot, raw_lit, put_some, wb_nil, ev_mv, ev_give, ev_lenL, bin_lss, ro_int, ro_bool, ro_excl, List.map_cons, List.map_nil, List.getD_cons_zero, List.getD_cons_succ, List.set_cons_zero, List.set_cons_succ, List.replicate_succ, List.replicate_zero, List.cons_append, List.nil_append, true_and, Bool.false_eq_true, ↓reduceIte]
      first | exact ⟨_, .same⟩ | exact ⟨_, .same, rfl⟩ | exact ⟨_, .same, rfl, rfl⟩
    · simp (maxSteps := 2000000) (disch := first | omega | (simp only [List.length_append, List.length_cons, List.length_nil, List.length_map] <;> omega)) only [hd, lpK_e, flg_bool, swp_seq, swp_reg, swp_ret, swp_exit, swp_cond, seqK_n, seqK_e, blkK_e, condK_f, evK_some, appK_eq, srun_nil, srun_cons, fin_ret, sk_mv, sk_give, sk_bin, sk_lenL, get_mk, raw_slot, raw_lit, put_some, wb_nil, ev_mv, ev_give, ev_lenL, bin_lss, ro_int, ro_bool, ro_own, List.map_cons, List.map_nil, List.getD_cons_zero, List.getD_cons_succ, List.set_cons_zero, List.set_cons_succ, List.replicate_succ, List.replicate_zero, List.cons_append, List.nil_append, true_and, Bool.false_eq_true, ↓reduceIte]
      first | exact ⟨_, .same⟩ | exact ⟨_, .same, rfl⟩ | exact ⟨_, .same, rfl, rfl⟩
  have hd : decide ((i : Int) < (l.length : Int)) = true := by rw [decide_eq_true_eq]; omega
  have hil : i < l.length := by omega
  have hat := ssv_at l i l[i] (List.getElem?_eq_getElem hil)
  have fin : ((l.length : Int) - ((i + 1 : Nat) : Int)).toNat < ((l.length : Int) - (i : Int)).toNat := by omega
  have k14 : O15 15 [.str l[i]] st (.bool (nameB l[i])) st := .inl (Orc.here ⟨_, hm _ (List.getElem_mem hil), rfl, rfl⟩)
  rcases hfl with rfl | rfl
  all_goals
    simp (maxSteps := 2000000) (disch := first | omega | (simp only [List.length_append, List.length_cons, List.length_nil, List.length_map] <;> omega)) only [hd, hat, Int.toNat_natCast, exc_str, sk_idxB, idxB_own, idxB_excl, swp_seq, swp_reg, swp_skip, swp_block, swp_cond, seqK_n, condK_t, evK_some, appK_eq, srun_nil, srun_cons, stepK_call, sk_mv, sk_bin, sk_load, sk_lenL, get_mk, raw_slot, put_some, wb_nil, wb_cons, ev_mv, ev_lenL, bin_lss, ev_loadE, ro_int, ro_str, ro_own, ro_excl, got_str, pubs, pubsFrom, List.map_cons, List.map_nil, List.getD_cons_zero, List.getD_cons_succ, List.set_cons_zero, List.set_cons_succ, List.getElem?_cons_zero, List.replicate_succ, List.replicate_zero, List.cons_append, List.nil_append, Bool.false_eq_true, Option.map_some, ↓reduceIte, Nat.mul_one]
    refine callK_intro k14 ?_
    cases hn : nameB l[i] with
    | false =>
      have hf : l.all nameB = false := by
        rw [List.all_eq_false]
        exact ⟨_, List.getElem_mem hil, by rw [hn]; simp⟩
      rw [hf]
      simp (maxSteps := 2000000) (disch := first | omega | (simp only [List.length_append, List.length_cons, List.length_nil, List.length_map] <;> omega)) only [lpK_r, flg_bool, swp_seq, swp_reg, swp_ret, swp_cond, seqK_n, seqK_r, blkK_r, condK_t, evK_some, appK_eq, appC_eq, srun_nil, srun_cons, fin_ret, sk_give, sk_un, get_mk, raw_slot, raw_lit, put_some, wb_nil, ev_give, ev_not, ro_bool, List.map_cons, List.map_nil, List.getD_cons_zero, List.getD_cons_succ, List.set_cons_zero, List.set_cons_succ, true_and, Bool.false_eq_true, ↓reduceIte, Bool.not_false]
      first | exact ⟨_, .same⟩ | exact ⟨_, .same, rfl⟩ | exact ⟨_, .same, rfl, rfl⟩
    | true =>
      simp (maxSteps := 2000000) (disch := first | omega | (simp only [List.length_append, List.length_cons, List.length_nil, List.length_map] <;> omega)) only [lpK_n, flg_int, swp_reg, swp_skip, swp_cond, seqK_n, blkK_n, condK_f, evK_some, appK_eq, appC_eq, srun_nil, srun_cons, sk_mv, sk_give, sk_bin, sk_un, get_mk, raw_slot, raw_lit, put_some, wb_nil, ev_mv, ev_give, ev_not, bin_add, ro_int, List.map_cons, List.map_nil, List.getD_cons_zero, List.getD_cons_succ, List.set_cons_zero, List.set_cons_succ, Bool.false_eq_true, ↓reduceIte, Bool.not_true, wrap_i64]
      refine ⟨_, ?_, ⟨i + 1, .own 1, by omega, .inr rfl, by rw [← List.take_append_getElem hil, List.all_append, hall]; simp [hn], rfl⟩, by exact fin⟩
      refine Forget.of ?_
      repeat first | exact fg_e | refine fg_d ?_ | refine fg_k rfl ?_
def O16 : Orc := O15.add 17 (FnC KRight)
theorem s16 : Sound Tryd.prog O16 := s15.addP c17 (by kernel_rfl) (by
  rintro args r ⟨s, hs, rfl, rfl⟩
  exact ⟨by simp [sf17], fun st => f17 s hs st⟩)
def namesW (s : List UInt8) : SV := if rightB s = true then .sl (ssv (spl s)) (spl s).length (.excl 1) else .nilS
theorem f13 (s : List UInt8) (hs : sm s) (st : List Ob) : swpF O16 sf13 [.str s] st (fun r st' => r = namesW s ∧ st' = st) := by
  unfold namesW
  simp (maxSteps := 2000000) (disch := first | omega | (simp only [List.length_append, List.length_cons, List.length_nil, List.length_map] <;> omega)) only [sf13, flg_nilS, exc_str, swp_seq, swp_reg, seqK_n, evK_some, appK_eq, srun_nil, srun_cons, stepK_call, swpF_eq, sk_mv, sk_give, get_mk, raw_slot, raw_lit, put_some, wb_nil, ev_mv, ev_give, ro_str, ro_nilS, got_str, pubs, pubsFrom, List.map_cons, List.map_nil, List.getD_cons_zero, List.set_cons_zero, List.set_cons_succ, List.length_cons, List.length_nil, List.replicate_succ, List.replicate_zero, List.cons_append, List.nil_append, Nat.reduceSub, Bool.false_eq_true, ↓reduceIte, Nat.zero_add]
  refine callK_intro (Orc.here ⟨s, hs, rfl, rfl⟩) ?_
  cases h : rightB s with
  | false =>
    simp (maxSteps := 2000000) (disch := first | omega | (simp only [List.length_append, List.length_cons, List.length_nil, List.length_map] <;> omega)) only [flg_nilS, swp_seq, swp_reg, swp_ret, swp_cond, seqK_n, seqK_r, condK_t, evK_some, appK_eq, appC_eq, srun_nil, srun_cons, fin_ret, sk_give, sk_un, get_mk, raw_slot, raw_lit, put_some, wb_nil, ev_give, ev_not, ro_nilS, List.map_cons, List.map_nil, List.getD_cons_zero, List.getD_cons_succ, List.set_cons_zero, List.set_cons_succ, true_and, Bool.false_eq_true, ↓reduceIte, Bool.not_false]
    first | exact ⟨_, .same⟩ | exact ⟨_, .same, rfl⟩ | exact ⟨_, .same, rfl, rfl⟩
  | true =>
    simp (maxSteps := 2000000) (disch := first | omega | (simp only [List.length_append, List.length_cons, List.length_nil, List.length_map] <;> omega)) only [exc_str, swp_seq, swp_reg, swp_skip, swp_cond, seqK_n, condK_f, evK_some, appK_eq, appC_eq, srun_nil, srun_cons, stepK_call, sk_mv, sk_un, get_mk, raw_slot, put_some, wb_nil, ev_mv, ev_not, ro_str, got_str, pubs, pubsFrom, List.map_cons, List.map_nil, List.getD_cons_zero, List.getD_cons_succ, List.set_cons_zero, List.set_cons_succ, Bool.false_eq_true, ↓reduceIte, Bool.not_true]
    refine callK_intro (.inl (Orc.here ⟨s, hs, rfl, rfl⟩)) ?_
    simp (maxSteps := 2000000) (disch := first | omega | (simp only [List.length_append, List.length_cons, List.length_nil, List.length_map] <;> omega)) only [flg_excl, swp_ret, seqK_n, evK_some, appK_eq, appC_eq, srun_nil, srun_cons, fin_ret, sk_give, get_mk, raw_slot, put_some, wb_nil, wb_cons, ev_give, ro_excl, List.map_cons, List.map_nil, List.getD_cons_zero, List.getD_cons_succ, List.set_cons_zero, List.set_cons_succ, List.getElem?_cons_zero, true_and, ↓reduceIte]
    first | exact ⟨_, .same⟩ | exact ⟨_, .same, rfl⟩ | exact ⟨_, .same, rfl, rfl⟩
def KNamesW : List SV → SV → Prop := fun args r => ∃ s : List UInt8, sm s ∧ args = [.str s] ∧ r = namesW s
def O17 : Orc := O16.add 13 (FnC KNamesW)
theorem s17 : Sound Tryd.prog O17 := s16.addP c13 (by kernel_rfl) (by
  rintro args r ⟨s, hs, rfl, rfl⟩
  exact ⟨by simp [sf13], fun st => f13 s hs st⟩)
theorem jn_succ (l : List (List UInt8)) (i : Nat) (hi : i < l.length) : jn (l.take (i + 1)) = if 0 < i then jn (l.take i) ++ [47] ++ l[i] else l[i] := by
  rw [← List.take_append_getElem hi]
  by_cases h : 0 < i
  · have hne : l.take i ≠ [] := by
      intro e
      have := congrArg List.length e
      rw [List.length_take, List.length_nil] at this
      omega
    rw [if_pos h, jn_snoc hne]; simp
  · rw [if_neg h]
    generalize l[i] = x
    rw [show i = 0 by omega]; rfl
theorem fine_five {l : List (List UInt8)} (h : (l.take 5).all nameB = true) : fineL l = fineL (l.take 5) := by
  unfold fineL
  rw [List.length_take]
  by_cases h4 : l.length ≤ 4
  · rw [List.take_of_length_le (by omega), Nat.min_eq_right (by omega)]
  · rw [decide_eq_false h4, decide_eq_false (by omega : ¬ min 5 l.length ≤ 4)]; simp
theorem right_jn {l : List (List UInt8)} (h : l.all nameB = true) : rightB (jn l) = fineL l := by
  cases l with
  | nil => decide
  | cons x r =>
    rw [right_fine, spl_jn (x :: r) (by simp) (fun y hy => name_no (List.all_eq_true.1 h y hy))]
set_option maxHeartbeats 8000000 in
theorem f19 (v : SV) (l : List (List UInt8)) (hl : smL l) (hv : rdS v l) (st : List Ob) : swpF O17 sf19 [v] st (fun r st' => r = .str (joinP l) ∧ st' = st) := by
  obtain ⟨q1, q2, q3, q4, q5⟩ := rdS_facts hv
  have hsmj : ∀ i, sm (jn (l.take i)) ∧ (jn (l.take i)).length ≤ 268435456 := fun i => by
    have h1 := jn_len (l.take i)
    have h2 : (l.take i).flatten.length ≤ l.flatten.length := by
      conv => rhs; rw [← List.take_append_drop i l]
      rw [List.flatten_append, List.length_append]; omega
    have h3 : (l.take i).length ≤ l.length := by rw [List.length_take]; omega
    unfold smL at hl
    unfold sm; omega
  have hmem : ∀ i (h : i < l.length), sm l[i] := fun i h => by
    have : ∀ (l : List (List UInt8)) (x : List UInt8), x ∈ l → x.length ≤ l.flatten.length := by
      intro l
      induction l with
      | nil => intro x hx; cases hx
      | cons a l ih =>
        intro x hx
        simp only [List.flatten_cons, List.length_append]
        rcases List.mem_cons.1 hx with rfl | hx
        · omega
        · have := ih x hx; omega
    have := this l _ (List.getElem_mem h)
    unfold smL at hl
    unfold sm; omega
  have hll : l.length ≤ 134217728 := hl.2
  rw [join_eq]
  simp (maxSteps := 2000000) (disch := first | omega | (simp only [List.length_append, List.length_cons, List.length_nil, List.length_map] <;> omega)) only [sf19, flg_str, exc_int, exc_str, swp_seq, swp_reg, swp_block, seqK_n, evK_some, appK_eq, srun_nil, srun_cons, swpF_eq, sk_take, sk_give, raw_lit, put_some, wb_nil, ev_take, ev_give, ro_str, got_int, got_str, List.map_cons, List.map_nil, List.set_cons_zero, List.set_cons_succ, List.length_cons, List.length_nil, List.replicate_succ, List.replicate_zero, List.cons_append, List.nil_append, Nat.reduceSub, Bool.false_eq_true, ↓reduceIte, Nat.zero_add]
  refine swp_lp (fun S => ∃ (i : Nat), i ≤ l.length ∧ i ≤ 5 ∧ (l.take i).all nameB = true ∧
      S = ⟨[v, .undef, .str [], .str (jn (l.take i)), .int .i64 i] ++ List.replicate 30 .undef, st⟩)
      (fun S => match S.get 4 with | .int _ k => ((l.length : Int) - k).toNat | _ => 0)
      ⟨[v, .undef, .str [], .str [], .int .i64 0] ++ List.replicate 30 .undef, st⟩ ?_ ⟨0, Nat.zero_le _, by omega, rfl, rfl⟩ ?_
  · refine Forget.of ?_
    repeat first | exact fg_e | refine fg_d ?_ | refine fg_k rfl ?_
  rintro S ⟨i, hi, hi5, hall, rfl⟩
  by_cases him : i = l.length ∨ i = 5
  · have htk : l.take i = l.take 5 := by
      rcases him with h | h
      · rw [List.take_of_length_le (by omega), List.take_of_length_le (by omega)]
      · rw [h]
    rw [htk] at hall
    have hr : rightB (jn (l.take 5)) = fineL l := by rw [right_jn hall, fine_five hall]
    have k17 : O17 17 [.str (jn (l.take 5))] st (.bool (fineL l)) st := by
      rw [← hr]; exact .inl (Orc.here ⟨_, (hsmj 5).1, rfl, rfl⟩)
    have hjl : fineL l = true → jn (l.take 5) = jn l := fun h => by
      simp only [fineL, Bool.and_eq_true, decide_eq_true_eq] at h
      rw [List.take_of_length_le (by omega)]
    rw [htk]
    by_cases h1 : i < l.length
    · have hd : decide ((i : Int) < (l.length : Int)) = true := by rw [decide_eq_true_eq]; omega
      have hd2 : decide ((i : Int) < 5) = false := by rw [decide_eq_false_iff_not]; omega
      simp (maxSteps := 2000000) (disch := first | omega | (simp only [List.length_append, List.length_cons, List.length_nil, List.length_map] <;> omega)) only [hd, hd2, q1, q5, lpK_e, exc_int, exc_str, swp_seq, swp_reg, swp_exit, swp_cond, seqK_n, seqK_e, blkK_e, condK_f, evK_some, appK_eq, grd_t, srun_nil, srun_cons, stepK_call, stepK_grd, sk_mv, sk_take, sk_pick, sk_bin, sk_lenL, get_mk, raw_slot, raw_lit, put_some, wb_nil, ev_mv, ev_take, ev_pick, bin_lss, ro_int, ro_bool, ro_str, got_int, got_str, pubs, pubsFrom, List.map_cons, List.map_nil, List.getD_cons_zero, List.getD_cons_succ, List.set_cons_zero, List.set_cons_succ, List.replicate_succ, List.replicate_zero, List.cons_append, List.nil_append, Bool.false_eq_true, ↓reduceIte]
      refine callK_intro k17 ?_
      cases hf : fineL l with
      | true =>
        rw [hjl hf]
        simp (maxSteps := 2000000) (disch := first | omega | (simp only [List.length_append, List.length_cons, List.length_nil, List.length_map] <;> omega)) only [flg_str, swp_seq, swp_reg, swp_skip, swp_ret, swp_cond, seqK_n, condK_f, evK_some, appK_eq, appC_eq, srun_nil, srun_cons, fin_ret, sk_mv, sk_give, sk_un, get_mk, raw_slot, put_some, wb_nil, ev_mv, ev_give, ev_not, ro_str, List.map_cons, List.map_nil, List.getD_cons_zero, List.getD_cons_succ, List.set_cons_zero, List.set_cons_succ, true_and, Bool.false_eq_true, ↓reduceIte, Bool.not_true]
        first | exact ⟨_, .same⟩ | exact ⟨_, .same, rfl⟩ | exact ⟨_, .same, rfl, rfl⟩
      | false =>
        simp (maxSteps := 2000000) (disch := first | omega | (simp only [List.length_append, List.length_cons, List.length_nil, List.length_map] <;> omega)) only [flg_str, swp_seq, swp_reg, swp_ret, swp_cond, seqK_n, seqK_r, condK_t, evK_some, appK_eq, appC_eq, srun_nil, srun_cons, fin_ret, sk_give, sk_un, get_mk, raw_slot, raw_lit, put_some, wb_nil, ev_give, ev_not, ro_str, List.map_cons, List.map_nil, List.getD_cons_zero, List.getD_cons_succ, List.set_cons_zero, List.set_cons_succ, true_and, Bool.false_eq_true, ↓reduceIte, Bool.not_false]
        first | exact ⟨_, .same⟩ | exact ⟨_, .same, rfl⟩ | exact ⟨_, .same, rfl, rfl⟩
    · have hd : decide ((i : Int) < (l.length : Int)) = false := by rw [decide_eq_false_iff_not]; omega
      simp (maxSteps := 2000000) (disch := first | omega | (simp only [List.length_append, List.length_cons, List.length_nil, List.length_map] <;> omega)) only [hd, q1, q5, lpK_e, exc_str, swp_seq, swp_reg, swp_exit, swp_cond, seqK_n, seqK_e, blkK_e, condK_f, evK_some, appK_eq, grd_t, srun_nil, srun_cons, stepK_call, stepK_grd, sk_mv, sk_pick, sk_bin, sk_lenL, get_mk, raw_slot, raw_lit, put_some, wb_nil, ev_mv, ev_pick, bin_lss, ro_int, ro_bool, ro_str, got_str, pubs, pubsFrom, List.map_cons, List.map_nil, List.getD_cons_zero, List.getD_cons_succ, List.set_cons_zero, List.set_cons_succ, List.replicate_succ, List.replicate_zero, List.cons_append, List.nil_append, Bool.false_eq_true, ↓reduceIte]
      refine callK_intro k17 ?_
      cases hf : fineL l with
      | true =>
        rw [hjl hf]
        simp (maxSteps := 2000000) (disch := first | omega | (simp only [List.length_append, List.length_cons, List.length_nil, List.length_map] <;> omega)) only [flg_str, swp_seq, swp_reg, swp_skip, swp_ret, swp_cond, seqK_n, condK_f, evK_some, appK_eq, appC_eq, srun_nil, srun_cons, fin_ret, sk_mv, sk_give, sk_un, get_mk, raw_slot, put_some, wb_nil, ev_mv, ev_give, ev_not, ro_str, List.map_cons, List.map_nil, List.getD_cons_zero, List.getD_cons_succ, List.set_cons_zero, List.set_cons_succ, true_and, Bool.false_eq_true, ↓reduceIte, Bool.not_true]
        first | exact ⟨_, .same⟩ | exact ⟨_, .same, rfl⟩ | exact ⟨_, .same, rfl, rfl⟩
      | false =>
        simp (maxSteps := 2000000) (disch := first | omega | (simp only [List.length_append, List.length_cons, List.length_nil, List.length_map] <;> omega)) only [flg_str, swp_seq, swp_reg, swp_ret, swp_cond, seqK_n, seqK_r, condK_t, evK_some, appK_eq, appC_eq, srun_nil, srun_cons, fin_ret, sk_give, sk_un, get_mk, raw_slot, raw_lit, put_some, wb_nil, ev_give, ev_not, ro_str, List.map_cons, List.map_nil, List.getD_cons_zero, List.getD_cons_succ, List.set_cons_zero, List.set_cons_succ, true_and, Bool.false_eq_true, ↓reduceIte, Bool.not_false]
        first | exact ⟨_, .same⟩ | exact ⟨_, .same, rfl⟩ | exact ⟨_, .same, rfl, rfl⟩
  have hd : decide ((i : Int) < (l.length : Int)) = true := by rw [decide_eq_true_eq]; omega
  have hd2 : decide ((i : Int) < 5) = true := by rw [decide_eq_true_eq]; omega
  have hil : i < l.length := by omega
  have hat := ssv_at l i l[i] (List.getElem?_eq_getElem hil)
  have hsl := ssv_len l
  have fin : ((l.length : Int) - ((i + 1 : Nat) : Int)).toNat < ((l.length : Int) - (i : Int)).toNat := by omega
  have k15 : O17 15 [.str l[i]] st (.bool (nameB l[i])) st := (.inl (.inl (.inl (Orc.here ⟨_, hmem i hil, rfl, rfl⟩))))
  have hvv := rdS_at hv hil
  subst hvv
  have hj1 := (hsmj i).2
  have hj2 := hmem i hil
  have hjs := jn_succ l i hil
  unfold sm at hj2
  simp (maxSteps := 2000000) (disch := first | omega | (simp only [List.length_append, List.length_cons, List.length_nil, List.length_map] <;> omega)) only [hd, hd2, hat, Int.toNat_natCast, exc_int, exc_str, sk_idxB, idxB_ro, swp_seq, swp_reg, swp_skip, swp_block, swp_cond, seqK_n, condK_t, evK_some, appK_eq, grd_t, srun_nil, srun_cons, stepK_call, stepK_grd, sk_mv, sk_take, sk_pick, sk_bin, sk_load, sk_lenL, get_mk, raw_slot, raw_lit, put_some, wb_nil, ev_mv, ev_take, ev_pick, ev_lenL, bin_lss, ev_loadE, ro_int, ro_bool, ro_str, ro_ro, got_int, got_str, pubs, pubsFrom, List.map_cons, List.map_nil, List.getD_cons_zero, List.getD_cons_succ, List.set_cons_zero, List.set_cons_succ, List.replicate_succ, List.replicate_zero, List.cons_append, List.nil_append, Bool.false_eq_true, Option.map_some, ↓reduceIte, Nat.mul_one]
  refine callK_intro k15 ?_
  cases hn : nameB l[i] with
  | false =>
    have hf : fineL l = false := by
      have : l.all nameB = false := by
        rw [List.all_eq_false]
        exact ⟨_, List.getElem_mem hil, by rw [hn]; simp⟩
      rw [fineL, this, Bool.and_false]
    rw [hf]
    simp (maxSteps := 2000000) (disch := first | omega | (simp only [List.length_append, List.length_cons, List.length_nil, List.length_map] <;> omega)) only [lpK_r, flg_str, swp_seq, swp_reg, swp_ret, swp_cond, seqK_n, seqK_r, blkK_r, condK_t, evK_some, appK_eq, appC_eq, srun_nil, srun_cons, fin_ret, sk_give, sk_un, get_mk, raw_slot, raw_lit, put_some, wb_nil, ev_give, ev_not, ro_str, List.map_cons, List.map_nil, List.getD_cons_zero, List.getD_cons_succ, List.set_cons_zero, List.set_cons_succ, true_and, Bool.false_eq_true, ↓reduceIte, Bool.not_false]
    first | exact ⟨_, .same⟩ | exact ⟨_, .same, rfl⟩ | exact ⟨_, .same, rfl, rfl⟩
  | true =>
    have hall2 : (l.take (i + 1)).all nameB = true := by rw [← List.take_append_getElem hil, List.all_append, hall]; simp [hn]
    by_cases h0 : 0 < i
    · have d0 : decide ((0 : Int) < (i : Int)) = true := by rw [decide_eq_true_eq]; omega
      rw [if_pos h0] at hjs
      simp (maxSteps := 2000000) (disch := first | omega | (simp only [List.length_append, List.length_cons, List.length_nil, List.length_map] <;> omega)) only [d0, hat, bin_addS, lpK_n, Int.toNat_natCast, flg_int, flg_str, sk_idxB, idxB_ro, swp_seq, swp_reg, swp_skip, swp_cond, seqK_n, blkK_n, condK_t, condK_f, evK_some, appK_eq, appC_eq, srun_nil, srun_cons, sk_mv, sk_give, sk_bin, sk_un, sk_load, get_mk, raw_slot, raw_lit, put_some, wb_nil, ev_mv, ev_give, ev_not, bin_add, bin_gtr, ev_loadE, ro_int, ro_str, ro_ro, List.map_cons, List.map_nil, List.getD_cons_zero, List.getD_cons_succ, List.set_cons_zero, List.set_cons_succ, Bool.false_eq_true, Option.map_some, ↓reduceIte, Nat.mul_one, Bool.not_true, gt_iff_lt, wrap_i64]
      refine ⟨_, ?_, ⟨i + 1, by omega, by omega, hall2, rfl⟩, by exact fin⟩
      rw [hjs]
      refine Forget.of ?_
      repeat first | exact fg_e | refine fg_d ?_ | refine fg_k rfl ?_
    · have d0 : decide ((0 : Int) < (i : Int)) = false := by rw [decide_eq_false_iff_not]; omega
      rw [if_neg h0] at hjs
      have hi0 : i = 0 := by omega
      subst hi0
      simp (maxSteps := 2000000) (disch := first | omega | (simp only [List.length_append, List.length_cons, List.length_nil, List.length_map] <;> omega)) only [hat, bin_addS, lpK_n, flg_int, flg_str, sk_idxB, idxB_ro, swp_seq, swp_reg, swp_skip, swp_cond, seqK_n, blkK_n, condK_f, evK_some, appK_eq, appC_eq, srun_nil, srun_cons, sk_mv, sk_give, sk_bin, sk_un, sk_load, get_mk, raw_slot, raw_lit, put_some, wb_nil, ev_mv, ev_give, ev_not, bin_add, bin_gtr, ev_loadE, ro_int, ro_str, ro_ro, List.map_cons, List.map_nil, List.getD_cons_zero, List.getD_cons_succ, List.set_cons_zero, List.set_cons_succ, Bool.false_eq_true, Option.map_some, ↓reduceIte, decide_false, Nat.mul_one, Bool.not_true, gt_iff_lt, Int.cast_ofNat_Int, Int.reduceLT, Int.reduceAdd, Int.reduceToNat, wrap_i64]
      refine ⟨_, ?_, ⟨0 + 1, by omega, by omega, hall2, rfl⟩, by exact fin⟩
      rw [hjs]
      refine Forget.of ?_
      repeat first | exact fg_e | refine fg_d ?_ | refine fg_k rfl ?_
def O18 : Orc := O17.add 19 (FnC KJoinP)
theorem s18 : Sound Tryd.prog O18 := s17.addP c19 (by kernel_rfl) (by
  rintro args r ⟨v, l, hl, hv, rfl, rfl⟩
  exact ⟨by simp [sf19], fun st => f19 v l hl hv st⟩)
end Go.Sh.F
