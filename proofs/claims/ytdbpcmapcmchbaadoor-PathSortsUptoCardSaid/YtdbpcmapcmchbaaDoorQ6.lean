/-
  Paths: the document's Parent, Under, Sorted; two rows; the law's small case, in the shadow machine.
-/
import Derived.Test.YtdbpcmapcmchbaaDoorQ5
set_option linter.unusedSimpArgs false
set_option linter.unusedVariables false
namespace Go.Sh.F
open Go.PathLaw Go.Proofs
theorem slcL_hi_excl {st : List Ob} {xs : List SV} {n es e : Nat} {k : IntKind} {b : Int} (h0 : 0 ≤ b) (h1 : b ≤ n) (h2 : xs.length = n * es) : ev st (.slcL es false true false) [.sl xs n (.excl e), .int k b] = some (.sl (xs.take (b.toNat * es)) b.toNat .ro, [(0, .sl xs n (.own e))], st) := by
  simp [ev_slcL, slcV, intOfV, h0, h1, h2, exc, pub]
theorem f21 (s : List UInt8) (hs : sm s) (st : List Ob) : swpF O18 sf21 [.str s] st (fun r st' => r = .str (parentB s) ∧ st' = st) := by
  have k13 : O18 13 [.str s] st (namesW s) st := (.inl (Orc.here ⟨s, hs, rfl, rfl⟩))
  simp (maxSteps := 2000000) (disch := first | omega | (simp only [List.length_append, List.length_cons, List.length_nil, List.length_map] <;> omega)) only [sf21, flg_str, exc_str, swp_seq, swp_reg, seqK_n, evK_some, appK_eq, srun_nil, srun_cons, stepK_call, swpF_eq, sk_mv, sk_give, get_mk, raw_slot, raw_lit, put_some, wb_nil, ev_mv, ev_give, ro_str, got_str, pubs, pubsFrom, List.map_cons, List.map_nil, List.getD_cons_zero, List.set_cons_zero, List.set_cons_succ, List.length_cons, List.length_nil, List.replicate_succ, List.replicate_zero, List.cons_append, List.nil_append, Nat.reduceSub, Bool.false_eq_true, ↓reduceIte, Nat.zero_add]
  refine callK_intro k13 ?_
  unfold namesW parentB
  cases hr : rightB s with
  | false =>
    rw [names_wrong hr]
    have e : joinP (([] : List (List UInt8)).take (([] : List (List UInt8)).length - 1)) = [] := by decide
    rw [e]
    simp (maxSteps := 2000000) (disch := first | omega | (simp only [List.length_append, List.length_cons, List.length_nil, List.length_map] <;> omega)) only [flg_str, flg_nilS, swp_seq, swp_reg, swp_ret, swp_cond, seqK_n, seqK_r, condK_t, evK_some, appK_eq, appC_eq, srun_nil, srun_cons, fin_ret, sk_mv, sk_give, sk_bin, sk_lenL, get_mk, raw_slot, raw_lit, put_some, wb_nil, ev_mv, ev_give, ev_lenN, bin_lss, ro_str, ro_nilS, List.map_cons, List.map_nil, List.getD_cons_zero, List.getD_cons_succ, List.set_cons_zero, List.set_cons_succ, true_and, Bool.false_eq_true, ↓reduceIte, decide_true, Int.reduceLT]
    first | exact ⟨_, .same⟩ | exact ⟨_, .same, rfl⟩ | exact ⟨_, .same, rfl, rfl⟩
  | true =>
    rw [names_right hr]
    have hls := names_smL hs ((spl s).length - 1)
    rw [names_right hr] at hls
    have h4 : (spl s).length ≤ 4 := by have := names_le4 s; rwa [names_right hr] at this
    have h1 := spl_len_pos s
    generalize spl s = l at *
    have hsl := ssv_len l
    by_cases h2 : l.length < 2
    · have d1 : decide ((l.length : Int) < 2) = true := by rw [decide_eq_true_eq]; omega
      have e : joinP (l.take (l.length - 1)) = [] := by rw [show l.length - 1 = 0 by omega, List.take_zero]; decide
      rw [e]
      simp (maxSteps := 2000000) (disch := first | omega | (simp only [List.length_append, List.length_cons, List.length_nil, List.length_map] <;> omega)) only [d1, flg_str, flg_excl, swp_seq, swp_reg, swp_ret, swp_cond, seqK_n, seqK_r, condK_t, evK_some, appK_eq, appC_eq, srun_nil, srun_cons, fin_ret, sk_mv, sk_give, sk_bin, sk_lenL, get_mk, raw_slot, raw_lit, put_some, wb_nil, wb_cons, ev_mv, ev_give, ev_lenL, bin_lss, ro_str, ro_excl, List.map_cons, List.map_nil, List.getD_cons_zero, List.getD_cons_succ, List.set_cons_zero, List.set_cons_succ, List.getElem?_cons_zero, true_and, Bool.false_eq_true, ↓reduceIte]
      first | exact ⟨_, .same⟩ | exact ⟨_, .same, rfl⟩ | exact ⟨_, .same, rfl, rfl⟩
    · have d1 : decide ((l.length : Int) < 2) = false := by rw [decide_eq_false_iff_not]; omega
      have k19 : O18 19 [.sl (ssv (l.take (l.length - 1))) (l.length - 1) .ro] st (.str (joinP (l.take (l.length - 1)))) st := Orc.here ⟨_, _, hls, .inr (by rw [List.length_take, Nat.min_eq_left (by omega)]), rfl, rfl⟩
      have ei : (l.length : Int) - 1 = ((l.length - 1 : Nat) : Int) := by omega
      have z : ∀ st, ev st (.slcL 1 false true false) [.sl (ssv l) l.length (.excl 1), .int .i64 ((l.length - 1 : Nat) : Int)] = some (.sl (ssv (l.take (l.length - 1))) (l.length - 1) .ro, [(0, .sl (ssv l) l.length (.own 1))], st) := fun st => by
        rw [slcL_hi_excl (by omega) (by omega) (by omega)]
        simp [ssv_take]
      simp (maxSteps := 2000000) (disch := first | omega | (simp only [List.length_append, List.length_cons, List.length_nil, List.length_map] <;> omega)) only [d1, ei, z, flg_excl, exc_ro, swp_seq, swp_reg, swp_skip, swp_cond, seqK_n, condK_f, evK_some, appK_eq, appC_eq, srun_nil, srun_cons, stepK_call, sk_mv, sk_give, sk_bin, sk_lenL, sk_slcL, get_mk, raw_slot, raw_lit, put_some, wb_nil, wb_cons, ev_mv, ev_give, ev_lenL, bin_sub, bin_lss, ro_excl, got_roo, pubs, pubsFrom, List.map_cons, List.map_nil, List.getD_cons_zero, List.getD_cons_succ, List.set_cons_zero, List.set_cons_succ, List.getElem?_cons_zero, Bool.false_eq_true, ↓reduceIte, wrap_i64]
      refine callK_intro k19 ?_
      simp (maxSteps := 2000000) (disch := first | omega | (simp only [List.length_append, List.length_cons, List.length_nil, List.length_map] <;> omega)) only [flg_str, swp_ret, seqK_n, evK_some, appK_eq, appC_eq, srun_nil, srun_cons, fin_ret, sk_give, get_mk, raw_slot, put_some, wb_nil, ev_give, ro_str, List.map_cons, List.map_nil, List.getD_cons_zero, List.getD_cons_succ, List.set_cons_zero, List.set_cons_succ, true_and, Bool.false_eq_true, ↓reduceIte]
      first | exact ⟨_, .same⟩ | exact ⟨_, .same, rfl⟩ | exact ⟨_, .same, rfl, rfl⟩
def O19 : Orc := O18.add 21 (FnC KParent)
theorem s19 : Sound Tryd.prog O19 := s18.addP c21 (by kernel_rfl) (by
  rintro args r ⟨s, hs, rfl, rfl⟩
  exact ⟨by simp [sf21], fun st => f21 s hs st⟩)
theorem under_at (s d : List UInt8) : (d ++ [47]).isPrefixOf s = (decide (d.length < s.length) && (s.take d.length == d) && (s[d.length]? == some 47)) := by
  rw [Bool.eq_iff_iff, List.isPrefixOf_iff_prefix, Bool.and_eq_true, Bool.and_eq_true, decide_eq_true_eq, beq_iff_eq, beq_iff_eq]
  constructor
  · rintro ⟨t, rfl⟩
    simp
  · rintro ⟨⟨h1, h2⟩, h3⟩
    refine ⟨s.drop (d.length + 1), ?_⟩
    rw [List.getElem?_eq_getElem h1] at h3
    have e : s = s.take d.length ++ s[d.length] :: s.drop (d.length + 1) := by rw [← List.drop_eq_getElem_cons h1, List.take_append_drop]
    rw [h2] at e
    rw [Option.some.inj h3] at e
    rw [List.append_assoc]
    exact e.symm
set_option maxHeartbeats 4000000 in
theorem f25 (s d : List UInt8) (hs : sm s) (hd : sm d) (st : List Ob) : swpF O19 sf25 [.str s, .str d] st (fun r st' => r = .bool (underB s d) ∧ st' = st) := by
  have k1 : O19 17 [.str s] st (.bool (rightB s)) st := (.inl (.inl (.inl (Orc.here ⟨s, hs, rfl, rfl⟩))))
  have k2 : O19 17 [.str d] st (.bool (rightB d)) st := (.inl (.inl (.inl (Orc.here ⟨d, hd, rfl, rfl⟩))))
  unfold underB
  rw [under_at]
  simp (maxSteps := 2000000) (disch := first | omega | (simp only [List.length_append, List.length_cons, List.length_nil, List.length_map] <;> omega)) only [sf25, flg_bool, exc_str, swp_seq, swp_reg, seqK_n, evK_some, appK_eq, srun_nil, srun_cons, stepK_call, swpF_eq, sk_mv, sk_give, get_mk, raw_slot, raw_lit, put_some, wb_nil, ev_mv, ev_give, ro_bool, ro_str, got_str, pubs, pubsFrom, List.map_cons, List.map_nil, List.getD_cons_zero, List.set_cons_zero, List.set_cons_succ, List.length_cons, List.length_nil, List.replicate_succ, List.replicate_zero, List.cons_append, List.nil_append, Nat.reduceAdd, Nat.reduceSub, Bool.false_eq_true, ↓reduceIte, Nat.zero_add]
  refine callK_intro k1 ?_
  cases h1 : rightB s with
  | false =>
    simp (maxSteps := 2000000) (disch := first | omega | (simp only [List.length_append, List.length_cons, List.length_nil, List.length_map] <;> omega)) only [flg_bool, swp_seq, swp_reg, swp_ret, swp_cond, seqK_n, seqK_r, condK_t, evK_some, appK_eq, appC_eq, grd_t, srun_nil, srun_cons, stepK_grd, fin_ret, sk_mv, sk_give, sk_pick, sk_un, get_mk, raw_slot, raw_lit, put_some, wb_nil, ev_mv, ev_give, ev_pick, ev_not, ro_bool, List.map_cons, List.map_nil, List.getD_cons_zero, List.getD_cons_succ, List.set_cons_zero, List.set_cons_succ, Bool.false_eq_true, ↓reduceIte, reduceCtorEq, Bool.not_false]
    first | exact ⟨_, .same⟩ | exact ⟨_, .same, rfl⟩ | exact ⟨_, .same, rfl, rfl⟩
  | true =>
    simp (maxSteps := 2000000) (disch := first | omega | (simp only [List.length_append, List.length_cons, List.length_nil, List.length_map] <;> omega)) only [exc_str, evK_some, appK_eq, appC_eq, grd_t, srun_cons, stepK_call, stepK_grd, sk_mv, sk_take, sk_un, get_mk, raw_slot, put_some, wb_nil, ev_mv, ev_take, ev_not, ro_bool, got_str, pubs, pubsFrom, List.map_cons, List.map_nil, List.getD_cons_zero, List.getD_cons_succ, List.set_cons_zero, List.set_cons_succ, Bool.false_eq_true, ↓reduceIte, Bool.not_true]
    refine callK_intro k2 ?_
    cases h2 : rightB d with
    | false =>
      simp (maxSteps := 2000000) (disch := first | omega | (simp only [List.length_append, List.length_cons, List.length_nil, List.length_map] <;> omega)) only [flg_bool, swp_seq, swp_reg, swp_ret, swp_cond, seqK_n, seqK_r, condK_t, evK_some, appK_eq, appC_eq, grd_t, srun_nil, srun_cons, stepK_grd, fin_ret, sk_mv, sk_give, sk_pick, sk_un, get_mk, raw_slot, raw_lit, put_some, wb_nil, ev_mv, ev_give, ev_pick, ev_not, ro_bool, List.map_cons, List.map_nil, List.getD_cons_zero, List.getD_cons_succ, List.set_cons_zero, List.set_cons_succ, Bool.false_eq_true, ↓reduceIte, reduceCtorEq, Bool.not_false]
      first | exact ⟨_, .same⟩ | exact ⟨_, .same, rfl⟩ | exact ⟨_, .same, rfl, rfl⟩
    | true =>
      by_cases hl : d.length < s.length
      case neg =>
        have d1 : decide ((s.length : Int) ≤ (d.length : Int)) = true := by rw [decide_eq_true_eq]; omega
        have d2 : decide (d.length < s.length) = false := by rw [decide_eq_false_iff_not]; omega
        simp (maxSteps := 2000000) (disch := first | omega | (simp only [List.length_append, List.length_cons, List.length_nil, List.length_map] <;> omega)) only [d1, flg_bool, exc_str, swp_seq, swp_reg, swp_ret, swp_cond, seqK_n, seqK_r, condK_t, evK_some, appK_eq, appC_eq, grd_t, srun_nil, srun_cons, stepK_grd, fin_ret, sk_mv, sk_take, sk_give, sk_pick, sk_bin, sk_un, sk_lenS, get_mk, raw_slot, raw_lit, put_some, wb_nil, ev_mv, ev_take, ev_give, ev_pick, ev_not, ev_lenS, bin_leq, ro_bool, got_str, List.map_cons, List.map_nil, List.getD_cons_zero, List.getD_cons_succ, List.set_cons_zero, List.set_cons_succ, Bool.false_eq_true, ↓reduceIte, Bool.and_self, Bool.not_true]
        exact ⟨_, .same, by rw [d2]; rfl, rfl⟩
      have d1 : decide ((s.length : Int) ≤ (d.length : Int)) = false := by rw [decide_eq_false_iff_not]; omega
      have d2 : decide (d.length < s.length) = true := by rw [decide_eq_true_eq]; exact hl
      have hat2 : ∀ st, ev st .idxS [.str s, .int .i64 (d.length : Int)] = some (.int .u8 s[d.length].toNat, [], st) := fun st => by
        rw [ev_idxS (by omega), Int.toNat_natCast, List.getElem?_eq_getElem hl]; rfl
      have e5 : ((s[d.length].toNat : Int) == 47) = (s[d.length]? == some 47) := by
        rw [List.getElem?_eq_getElem hl, Bool.eq_iff_iff, beq_iff_eq, beq_iff_eq, Option.some.injEq, ← UInt8.toNat_inj]
        show (s[d.length].toNat : Int) = 47 ↔ s[d.length].toNat = 47
        omega
      rw [d2]
      cases hx : (s.take d.length == d) with
      | false =>
        simp (maxSteps := 2000000) (disch := first | omega | (simp only [List.length_append, List.length_cons, List.length_nil, List.length_map] <;> omega)) only [d1, hx, Int.toNat_natCast, flg_bool, exc_str, swp_seq, swp_reg, swp_skip, swp_ret, swp_cond, seqK_n, condK_f, evK_some, appK_eq, appC_eq, grd_t, srun_nil, srun_cons, stepK_grd, fin_ret, sk_mv, sk_take, sk_give, sk_pick, sk_bin, sk_un, sk_lenS, sk_slcS, get_mk, raw_slot, raw_lit, put_some, wb_nil, ev_mv, ev_take, ev_give, ev_pick, ev_not, ev_lenS, bin_leq, bin_eqlS, slcS_hi, ro_bool, ro_str, got_str, List.map_cons, List.map_nil, List.getD_cons_zero, List.getD_cons_succ, List.set_cons_zero, List.set_cons_succ, Bool.false_eq_true, ↓reduceIte, Bool.and_self, Bool.not_true]
        first | exact ⟨_, .same⟩ | exact ⟨_, .same, rfl⟩ | exact ⟨_, .same, rfl, rfl⟩
      | true =>
        simp (maxSteps := 2000000) (disch := first | omega | (simp only [List.length_append, List.length_cons, List.length_nil, List.length_map] <;> omega)) only [d1, hx, hat2, e5, Int.toNat_natCast, flg_bool, exc_str, swp_seq, swp_reg, swp_skip, swp_ret, swp_cond, seqK_n, condK_f, evK_some, appK_eq, appC_eq, grd_t, srun_nil, srun_cons, stepK_grd, fin_ret, sk_mv, sk_take, sk_give, sk_pick, sk_bin, sk_un, sk_idxS, sk_lenS, sk_slcS, get_mk, raw_slot, raw_lit, put_some, wb_nil, ev_mv, ev_take, ev_give, ev_pick, ev_not, ev_lenS, bin_eql, bin_leq, bin_eqlS, slcS_hi, ro_bool, ro_str, got_str, List.map_cons, List.map_nil, List.getD_cons_zero, List.getD_cons_succ, List.set_cons_zero, List.set_cons_succ, Bool.false_eq_true, ↓reduceIte, Bool.and_self, Bool.not_true]
        first | exact ⟨_, .same⟩ | exact ⟨_, .same, rfl⟩ | exact ⟨_, .same, rfl, rfl⟩
def O20 : Orc := O19.add 25 (FnC KUnder)
theorem s20 : Sound Tryd.prog O20 := s19.addP c25 (by kernel_rfl) (by
  rintro args r ⟨s, d, hs, hd, rfl, rfl⟩
  exact ⟨by simp [sf25], fun st => f25 s d hs hd st⟩)
theorem bin_leqS2 {st : List Ob} {x y : List UInt8} : ev st (.bin .leq) [.str x, .str y] = some (.bool (!(lt y x)), [], st) := by rw [bin_leqS, leq_lt]
set_option maxHeartbeats 8000000 in
theorem f23 (v : SV) (l : List (List UInt8)) (hl : smA l) (hv : rdS v l) (st : List Ob) : swpF O20 sf23 [v] st (fun r st' => r = .bool (sortedB l) ∧ st' = st) := by
  obtain ⟨q1, q2, q3, q4, q5⟩ := rdS_facts hv
  obtain ⟨hx, hlen⟩ := hl
  simp (maxSteps := 2000000) (disch := first | omega | (simp only [List.length_append, List.length_cons, List.length_nil, List.length_map] <;> omega)) only [sf23, flg_bool, exc_int, swp_seq, swp_reg, swp_block, seqK_n, evK_some, appK_eq, srun_nil, srun_cons, swpF_eq, sk_take, sk_give, raw_lit, put_some, wb_nil, ev_take, ev_give, ro_bool, got_int, List.map_cons, List.map_nil, List.set_cons_zero, List.set_cons_succ, List.length_cons, List.length_nil, List.replicate_succ, List.replicate_zero, List.cons_append, List.nil_append, Nat.reduceSub, Bool.false_eq_true, ↓reduceIte, Nat.zero_add]
  refine swp_lp (fun S => ∃ (i : Nat), i ≤ l.length ∧ srtTo l i ∧
      S = ⟨[v, .undef, .bool false, .int .i64 i] ++ List.replicate 28 .undef, st⟩)
      (fun S => match S.get 3 with | .int _ k => ((l.length : Int) - k).toNat | _ => 0)
      ⟨[v, .undef, .bool false, .int .i64 0] ++ List.replicate 28 .undef, st⟩ ?_ ⟨0, Nat.zero_le _, srtTo_zero l, rfl⟩ ?_
  · refine Forget.of ?_
    repeat first | exact fg_e | refine fg_d ?_ | refine fg_k rfl ?_
  rintro S ⟨i, hi, hall, rfl⟩
  by_cases him : i = l.length
  · have hd : decide ((i : Int) < (l.length : Int)) = false := by rw [decide_eq_false_iff_not]; omega
    rw [srtTo_all.2 (him ▸ hall)]
    simp (maxSteps := 2000000) (disch := first | omega | (simp only [List.length_append, List.length_cons, List.length_nil, List.length_map] <;> omega)) only [hd, q1, q5, lpK_e, flg_bool, swp_seq, swp_reg, swp_ret, swp_exit, swp_cond, seqK_n, seqK_e, blkK_e, condK_f, evK_some, appK_eq, srun_nil, srun_cons, fin_ret, sk_mv, sk_give, sk_bin, sk_lenL, get_mk, raw_slot, raw_lit, put_some, wb_nil, ev_mv, ev_give, bin_lss, ro_int, ro_bool, List.map_cons, List.map_nil, List.getD_cons_zero, List.getD_cons_succ, List.set_cons_zero, List.set_cons_succ, List.replicate_succ, List.replicate_zero, List.cons_append, List.nil_append, true_and, Bool.false_eq_true, ↓reduceIte]
    first | exact ⟨_, .same⟩ | exact ⟨_, .same, rfl⟩ | exact ⟨_, .same, rfl, rfl⟩
  have hd : decide ((i : Int) < (l.length : Int)) = true := by rw [decide_eq_true_eq]; omega
  have hil : i < l.length := by omega
  have hat := ssv_at l i l[i] (List.getElem?_eq_getElem hil)
  have hsl := ssv_len l
  have fin : ((l.length : Int) - ((i + 1 : Nat) : Int)).toNat < ((l.length : Int) - (i : Int)).toNat := by omega
  have k17 : ∀ st, O20 17 [.str l[i]] st (.bool (rightB l[i])) st := fun st => (.inl (.inl (.inl (.inl (Orc.here ⟨_, hx _ (List.getElem_mem hil), rfl, rfl⟩)))))
  have hvv := rdS_at hv hil
  subst hvv
  simp (maxSteps := 2000000) (disch := first | omega | (simp only [List.length_append, List.length_cons, List.length_nil, List.length_map] <;> omega)) only [hd, hat, Int.toNat_natCast, stepK_callp, exc_str, swp_seq, swp_reg, swp_skip, swp_block, swp_cond, seqK_n, condK_t, evK_some, appK_eq, appC_eq, srun_nil, srun_cons, sk_mv, sk_bin, sk_un, sk_idxA, sk_load, sk_lenL, get_mk, raw_slot, put_some, wb_nil, ev_mv, ev_lenL, bin_lss, ev_loadE, idxA_ro, ro_int, ro_str, ro_ro, got_str, pubs, pubsFrom, List.map_cons, List.map_nil, List.getD_cons_zero, List.getD_cons_succ, List.set_cons_zero, List.set_cons_succ, List.replicate_succ, List.replicate_zero, List.cons_append, List.nil_append, Bool.false_eq_true, Option.map_some, ↓reduceIte, Nat.mul_one]
  refine callpK_intro k17 ?_
  cases hn : rightB l[i] with
  | false =>
    rw [srtTo_not hil (by rw [hn]; simp)]
    simp (maxSteps := 2000000) (disch := first | omega | (simp only [List.length_append, List.length_cons, List.length_nil, List.length_map] <;> omega)) only [lpK_r, flg_bool, grd_s, swp_seq, swp_reg, swp_ret, swp_cond, seqK_n, seqK_r, blkK_r, condK_t, evK_some, appK_eq, grd_t, srun_nil, srun_cons, stepK_grd, fin_ret, sk_mv, sk_give, sk_pick, get_mk, raw_slot, raw_lit, put_some, wb_nil, ev_mv, ev_give, ev_pick, ev_not, ro_bool, List.map_cons, List.map_nil, List.getD_cons_zero, List.getD_cons_succ, List.set_cons_zero, List.set_cons_succ, true_and, Bool.false_eq_true, ↓reduceIte, reduceCtorEq, Bool.not_false]
    first | exact ⟨_, .same⟩ | exact ⟨_, .same, rfl⟩ | exact ⟨_, .same, rfl, rfl⟩
  | true =>
    by_cases h0 : i = 0
    · have d0 : decide ((0 : Int) < (i : Int)) = false := by rw [decide_eq_false_iff_not]; omega
      simp (maxSteps := 2000000) (disch := first | omega | (simp only [List.length_append, List.length_cons, List.length_nil, List.length_map] <;> omega)) only [d0, lpK_n, flg_int, swp_reg, swp_skip, swp_cond, seqK_n, blkK_n, condK_f, evK_some, appK_eq, grd_t, srun_nil, srun_cons, stepK_grd, sk_mv, sk_give, sk_pick, sk_bin, get_mk, raw_slot, raw_lit, put_some, wb_nil, ev_mv, ev_give, ev_pick, ev_not, bin_add, bin_gtr, ro_int, ro_bool, List.map_cons, List.map_nil, List.getD_cons_zero, List.getD_cons_succ, List.set_cons_zero, List.set_cons_succ, Bool.false_eq_true, ↓reduceIte, Bool.not_true, gt_iff_lt, wrap_i64]
      refine ⟨_, ?_, ⟨i + 1, by omega, srtTo_succ hall hil hn (fun h => by omega), rfl⟩, by exact fin⟩
      refine Forget.of ?_
      repeat first | exact fg_e | refine fg_d ?_ | refine fg_k rfl ?_
    · have d0 : decide ((0 : Int) < (i : Int)) = true := by rw [decide_eq_true_eq]; omega
      have hp : i - 1 < l.length := by omega
      have hat2 := ssv_at l (i - 1) (l[i - 1]'hp) (List.getElem?_eq_getElem hp)
      have ei : (i : Int) - 1 = ((i - 1 : Nat) : Int) := by omega
      cases hlt : lt (l[i - 1]'hp) l[i] with
      | true =>
        simp (maxSteps := 2000000) (disch := first | omega | (simp only [List.length_append, List.length_cons, List.length_nil, List.length_map] <;> omega)) only [d0, ei, hat, hat2, bin_leqS2, hlt, lpK_n, Int.toNat_natCast, flg_int, swp_reg, swp_skip, swp_cond, seqK_n, blkK_n, condK_f, evK_some, appK_eq, grd_t, srun_nil, srun_cons, stepK_grd, sk_mv, sk_give, sk_pick, sk_bin, sk_idxA, sk_load, get_mk, raw_slot, raw_lit, put_some, wb_nil, ev_mv, ev_give, ev_pick, ev_not, bin_add, bin_sub, bin_gtr, ev_loadE, idxA_ro, ro_int, ro_bool, ro_str, ro_ro, List.map_cons, List.map_nil, List.getD_cons_zero, List.getD_cons_succ, List.set_cons_zero, List.set_cons_succ, Bool.false_eq_true, Option.map_some, ↓reduceIte, Nat.mul_one, Bool.not_true, gt_iff_lt, wrap_i64]
        refine ⟨_, ?_, ⟨i + 1, by omega, srtTo_succ hall hil hn (fun _ => hlt), rfl⟩, by exact fin⟩
        refine Forget.of ?_
        repeat first | exact fg_e | refine fg_d ?_ | refine fg_k rfl ?_
      | false =>
        rw [srtTo_not hil (by rintro ⟨_, h⟩; rw [h (by omega)] at hlt; cases hlt)]
        simp (maxSteps := 2000000) (disch := first | omega | (simp only [List.length_append, List.length_cons, List.length_nil, List.length_map] <;> omega)) only [d0, ei, hat, hat2, bin_leqS2, hlt, lpK_r, Int.toNat_natCast, flg_bool, swp_seq, swp_reg, swp_ret, swp_cond, seqK_n, seqK_r, blkK_r, condK_t, evK_some, appK_eq, grd_t, srun_nil, srun_cons, stepK_grd, fin_ret, sk_mv, sk_give, sk_pick, sk_bin, sk_idxA, sk_load, get_mk, raw_slot, raw_lit, put_some, wb_nil, ev_mv, ev_give, ev_pick, ev_not, bin_sub, bin_gtr, ev_loadE, idxA_ro, ro_int, ro_bool, ro_str, ro_ro, List.map_cons, List.map_nil, List.getD_cons_zero, List.getD_cons_succ, List.set_cons_zero, List.set_cons_succ, true_and, Bool.false_eq_true, Option.map_some, ↓reduceIte, Nat.mul_one, Bool.not_true, Bool.not_false, gt_iff_lt, wrap_i64]
        first | exact ⟨_, .same⟩ | exact ⟨_, .same, rfl⟩ | exact ⟨_, .same, rfl, rfl⟩
def O21 : Orc := O20.add 23 (FnC KSorted)
theorem s21 : Sound Tryd.prog O21 := s20.addP c23 (by kernel_rfl) (by
  rintro args r ⟨v, l, hl, hv, rfl, rfl⟩
  exact ⟨by simp [sf23], fun st => f23 v l hl hv st⟩)
set_option maxHeartbeats 1000000 in
theorem f12 (O : Orc) (v u : SV) (a b : List (List UInt8)) (hv : rdS v a) (hu : rdS u b) (hal : a.length ≤ 1099511627776) (st : List Ob) :
    swpF O sf12 [v, u] st (fun r st' => r = .bool (decide (a = b)) ∧ st' = st) := by
  have hla : ∀ {w : SV} {l : List (List UInt8)} {st : List Ob}, rdS w l → ev st .lenL [w] = some (.int .i64 l.length, [], st) := by
    rintro w l st (⟨rfl, rfl⟩ | rfl)
    · exact ev_lenN
    · exact ev_lenL
  have hv1 := hla (st := st) hv
  have hu1 := hla (st := st) hu
  obtain ⟨hro, hgot, hexc, hflg, _⟩ := rdS_facts hv
  obtain ⟨hro', hgot', hexc', hflg', _⟩ := rdS_facts hu
  by_cases hlen : a.length = b.length
  case neg =>
    have hd : ((a.length : Int) != (b.length : Int)) = true := by simp; omega
    have hne : decide (a = b) = false := by simp; intro h; exact hlen (by rw [h])
    rw [hne]
    simp (maxSteps := 2000000) (disch := first | omega | (simp only [List.length_append, List.length_cons, List.length_nil, List.length_map] <;> omega)) only [sf12, hro, hro', hv1, hu1, hd, flg_bool, swp_seq, swp_reg, swp_ret, swp_cond, seqK_n, seqK_r, condK_t, evK_some, appK_eq, srun_nil, srun_cons, fin_ret, swpF_eq, sk_mv, sk_give, sk_bin, sk_lenL, get_mk, raw_slot, raw_lit, put_some, wb_nil, ev_mv, ev_give, bin_neq, ro_bool, List.map_cons, List.map_nil, List.getD_cons_zero, List.getD_cons_succ, List.set_cons_zero, List.set_cons_succ, List.length_cons, List.length_nil, List.replicate_succ, List.replicate_zero, List.cons_append, List.nil_append, Nat.reduceAdd, Nat.reduceSub, true_and, Bool.false_eq_true, ↓reduceIte, Nat.zero_add]
    exact ⟨_, .same, rfl⟩
  have hd : ((a.length : Int) != (b.length : Int)) = false := by simp; omega
  simp (maxSteps := 2000000) (disch := first | omega | (simp only [List.length_append, List.length_cons, List.length_nil, List.length_map] <;> omega)) only [sf12, hro, hro', hv1, hu1, hd, flg_bool, exc_int, swp_seq, swp_reg, swp_skip, swp_block, swp_cond, seqK_n, condK_f, evK_some, appK_eq, srun_nil, srun_cons, swpF_eq, sk_mv, sk_take, sk_give, sk_bin, sk_lenL, get_mk, raw_slot, raw_lit, put_some, wb_nil, ev_mv, ev_take, ev_give, bin_neq, ro_bool, got_int, List.map_cons, List.map_nil, List.getD_cons_zero, List.getD_cons_succ, List.set_cons_zero, List.set_cons_succ, List.length_cons, List.length_nil, List.replicate_succ, List.replicate_zero, List.cons_append, List.nil_append, Nat.reduceAdd, Nat.reduceSub, Bool.false_eq_true, ↓reduceIte, Nat.zero_add]
  refine swp_lp (fun S => ∃ i : Nat, i ≤ a.length ∧ a.take i = b.take i ∧
      S = ⟨[v, u, .undef, .undef, .bool false, .int .i64 i] ++ List.replicate 20 .undef, st⟩)
      (fun S => match S.get 5 with | .int _ k => ((a.length : Int) - k).toNat | _ => 0)
      ⟨[v, u, .undef, .undef, .bool false, .int .i64 0] ++ List.replicate 20 .undef, st⟩ ?_ ⟨0, by omega, by simp, rfl⟩ ?_
  · refine Forget.of ?_
    repeat first | exact fg_e | refine fg_d ?_ | refine fg_k rfl ?_
  rintro S ⟨i, hi, htk, rfl⟩
  by_cases him : i = a.length
  · have hd : decide ((i : Int) < (a.length : Int)) = false := by simp; omega
    have he : decide (a = b) = true := by
      rw [List.take_of_length_le (by omega), List.take_of_length_le (by omega)] at htk
      simpa using htk
    rw [he]
    simp (maxSteps := 2000000) (disch := first | omega | (simp only [List.length_append, List.length_cons, List.length_nil, List.length_map] <;> omega)) only [hro, hv1, hd, lpK_e, flg_bool, swp_seq, swp_reg, swp_ret, swp_exit, swp_cond, seqK_n, seqK_e, blkK_e, condK_f, evK_some, appK_eq, srun_nil, srun_cons, fin_ret, sk_mv, sk_give, sk_bin, sk_lenL, get_mk, raw_slot, raw_lit, put_some, wb_nil, ev_mv, ev_give, bin_lss, ro_int, ro_bool, List.map_cons, List.map_nil, List.getD_cons_zero, List.getD_cons_succ, List.set_cons_zero, List.set_cons_succ, List.replicate_succ, List.replicate_zero, List.cons_append, List.nil_append, true_and, Bool.false_eq_true, ↓reduceIte]
    exact ⟨_, .same, rfl⟩
  · have hd : decide ((i : Int) < (a.length : Int)) = true := by simp; omega
    have hia : i < a.length := by omega
    have hib : i < b.length := by omega
    have hga := ssv_at a i (a[i]) (List.getElem?_eq_getElem hia)
    have hgb := ssv_at b i (b[i]) (List.getElem?_eq_getElem hib)
    have hva : v = .sl (ssv a) a.length .ro := by
      rcases hv with ⟨_, rfl⟩ | h
      · simp at hia
      · exact h
    have hub : u = .sl (ssv b) b.length .ro := by
      rcases hu with ⟨_, rfl⟩ | h
      · simp at hib
      · exact h
    have hsa := ssv_len a
    have hsb := ssv_len b
    subst hva hub
    by_cases hx : a[i] = b[i]
    · have hxb : (a[i] == b[i]) = true := by simpa using hx
      simp (maxSteps := 2000000) (disch := first | omega | (simp only [List.length_append, List.length_cons, List.length_nil, List.length_map] <;> omega)) only [hd, hga, hgb, hxb, lpK_n, Int.toNat_natCast, flg_int, swp_seq, swp_reg, swp_skip, swp_block, swp_cond, seqK_n, blkK_n, condK_t, condK_f, evK_some, appK_eq, srun_nil, srun_cons, sk_mv, sk_give, sk_bin, sk_idxA, sk_load, sk_lenL, get_mk, raw_slot, raw_lit, put_some, wb_nil, ev_mv, ev_give, ev_lenL, bin_add, bin_lss, bin_neqS, ev_loadE, idxA_ro, ro_int, ro_str, ro_ro, List.map_cons, List.map_nil, List.getD_cons_zero, List.getD_cons_succ, List.set_cons_zero, List.set_cons_succ, List.replicate_succ, List.replicate_zero, List.cons_append, List.nil_append, Bool.false_eq_true, Option.map_some, ↓reduceIte, Nat.mul_one, Bool.not_true, wrap_i64]
      refine ⟨_, ?_, ⟨i + 1, by omega, ?_, rfl⟩, ?_⟩
      · refine Forget.of ?_
        repeat first | exact fg_e | refine fg_d ?_ | refine fg_k rfl ?_
      · rw [← List.take_append_getElem hia, ← List.take_append_getElem hib, htk, hx]
      · show ((a.length : Int) - ((i + 1 : Nat) : Int)).toNat < ((a.length : Int) - (i : Int)).toNat
        omega
    · have hxb : (a[i] == b[i]) = false := by simpa using hx
      have hne : decide (a = b) = false := by
        simp
        intro h
        subst h
        exact hx rfl
      rw [hne]
      simp (maxSteps := 2000000) (disch := first | omega | (simp only [List.length_append, List.length_cons, List.length_nil, List.length_map] <;> omega)) only [hd, hga, hgb, hxb, lpK_r, Int.toNat_natCast, flg_bool, swp_seq, swp_reg, swp_skip, swp_ret, swp_block, swp_cond, seqK_n, seqK_r, blkK_r, condK_t, evK_some, appK_eq, srun_nil, srun_cons, fin_ret, sk_mv, sk_give, sk_bin, sk_idxA, sk_load, sk_lenL, get_mk, raw_slot, raw_lit, put_some, wb_nil, ev_mv, ev_give, ev_lenL, bin_lss, bin_neqS, ev_loadE, idxA_ro, ro_int, ro_bool, ro_str, ro_ro, List.map_cons, List.map_nil, List.getD_cons_zero, List.getD_cons_succ, List.set_cons_zero, List.set_cons_succ, List.replicate_succ, List.replicate_zero, List.cons_append, List.nil_append, true_and, Bool.false_eq_true, Option.map_some, ↓reduceIte, Nat.mul_one, Bool.not_false]
      exact ⟨_, .same, rfl⟩
def KRows : List SV → SV → Prop := fun args r => ∃ v u a b, rdS v a ∧ rdS u b ∧ a.length ≤ 1099511627776 ∧ args = [v, u] ∧ r = .bool (decide (a = b))
def O22 : Orc := O21.add 12 (FnC KRows)
theorem s22 : Sound Tryd.prog O22 := s21.addP c12 (by kernel_rfl) (by
  rintro args r ⟨v, u, a, b, hv, hu, hal, rfl, rfl⟩
  exact ⟨by simp [sf12], fun st => f12 _ v u a b hv hu hal st⟩)

/-! All of them. -/
theorem p12 {v u : SV} {a b : List (List UInt8)} (hv : rdS v a) (hu : rdS u b) (hl : a.length ≤ 1099511627776) (st : List Ob) : O22 12 [v, u] st (.bool (decide (a = b))) st := Orc.here ⟨v, u, a, b, hv, hu, hl, rfl, rfl⟩
theorem p23 {v : SV} {l : List (List UInt8)} (hl : smA l) (hv : rdS v l) (st : List Ob) : O22 23 [v] st (.bool (sortedB l)) st := (.inl (Orc.here ⟨v, l, hl, hv, rfl, rfl⟩))
theorem p25 {s d : List UInt8} (hs : sm s) (hd : sm d) (st : List Ob) : O22 25 [.str s, .str d] st (.bool (underB s d)) st := (.inl (.inl (Orc.here ⟨s, d, hs, hd, rfl, rfl⟩)))
theorem p21 {s : List UInt8} (hs : sm s) (st : List Ob) : O22 21 [.str s] st (.str (parentB s)) st := (.inl (.inl (.inl (Orc.here ⟨s, hs, rfl, rfl⟩))))
theorem p19 {v : SV} {l : List (List UInt8)} (hl : smL l) (hv : rdS v l) (st : List Ob) : O22 19 [v] st (.str (joinP l)) st := (.inl (.inl (.inl (.inl (Orc.here ⟨v, l, hl, hv, rfl, rfl⟩)))))
theorem p13 {s : List UInt8} (hs : sm s) (st : List Ob) : O22 13 [.str s] st (namesW s) st := (.inl (.inl (.inl (.inl (.inl (Orc.here ⟨s, hs, rfl, rfl⟩))))))
theorem p17 {s : List UInt8} (hs : sm s) (st : List Ob) : O22 17 [.str s] st (.bool (rightB s)) st := (.inl (.inl (.inl (.inl (.inl (.inl (Orc.here ⟨s, hs, rfl, rfl⟩)))))))
theorem p15 {s : List UInt8} (hs : sm s) (st : List Ob) : O22 15 [.str s] st (.bool (nameB s)) st := (.inl (.inl (.inl (.inl (.inl (.inl (.inl (.inl (Orc.here ⟨s, hs, rfl, rfl⟩)))))))))
theorem p22 {v : SV} {l : List (List UInt8)} (hl : smA l) (hv : rdS v l) (st : List Ob) : O22 22 [v] st (.bool (sortedB l)) st := (.inl (.inl (.inl (.inl (.inl (.inl (.inl (.inl (.inl (Orc.here ⟨v, l, hl, hv, rfl, rfl⟩))))))))))
theorem p26 {s d : List UInt8} (hs : sm s) (hd : sm d) (st : List Ob) : O22 26 [.str s, .str d] st (.bool (clashB s d)) st := (.inl (.inl (.inl (.inl (.inl (.inl (.inl (.inl (.inl (.inl (Orc.here ⟨s, d, hs, hd, rfl, rfl⟩)))))))))))
theorem p24 {s d : List UInt8} (hs : sm s) (hd : sm d) (st : List Ob) : O22 24 [.str s, .str d] st (.bool (underB s d)) st := (.inl (.inl (.inl (.inl (.inl (.inl (.inl (.inl (.inl (.inl (.inl (Orc.here ⟨s, d, hs, hd, rfl, rfl⟩))))))))))))
theorem p20 {s : List UInt8} (hs : sm s) (st : List Ob) : O22 20 [.str s] st (.str (parentB s)) st := (.inl (.inl (.inl (.inl (.inl (.inl (.inl (.inl (.inl (.inl (.inl (.inl (Orc.here ⟨s, hs, rfl, rfl⟩)))))))))))))
theorem p18 {v : SV} {l : List (List UInt8)} (hl : smL l) (hv : rdS v l) (st : List Ob) : O22 18 [v] st (.str (joinP l)) st := (.inl (.inl (.inl (.inl (.inl (.inl (.inl (.inl (.inl (.inl (.inl (.inl (.inl (Orc.here ⟨v, l, hl, hv, rfl, rfl⟩))))))))))))))
theorem p16 {s : List UInt8} (hs : sm s) (st : List Ob) : O22 16 [.str s] st (.bool (rightB s)) st := (.inl (.inl (.inl (.inl (.inl (.inl (.inl (.inl (.inl (.inl (.inl (.inl (.inl (.inl (Orc.here ⟨s, hs, rfl, rfl⟩)))))))))))))))
theorem p11 {s : List UInt8} (hs : sm s) (st : List Ob) : O22 11 [.str s] st (namesV s) st := (.inl (.inl (.inl (.inl (.inl (.inl (.inl (.inl (.inl (.inl (.inl (.inl (.inl (.inl (.inl (Orc.here ⟨s, hs, rfl, rfl⟩))))))))))))))))
theorem p14 {s : List UInt8} (hs : sm s) (st : List Ob) : O22 14 [.str s] st (.bool (nameB s)) st := (.inl (.inl (.inl (.inl (.inl (.inl (.inl (.inl (.inl (.inl (.inl (.inl (.inl (.inl (.inl (.inl (Orc.here ⟨s, hs, rfl, rfl⟩)))))))))))))))))
end Go.Sh.F
