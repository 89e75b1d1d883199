/-
  Reader.String, in the shadow machine.
-/
import Derived.Test.YtnlipgehmehmgaaT4
set_option linter.unusedSimpArgs false
set_option linter.unusedVariables false
namespace Go.Sh.F
theorem num4_lt (m : List UInt8) (h : m.length = 4) : num4 m < 4294967296 := by
  match m, h with
  | [a, b, c, d], _ =>
    have := a.toNat_lt
    have := b.toNat_lt
    have := c.toNat_lt
    have := d.toNat_lt
    simp only [num4, List.foldl_cons, List.foldl_nil]
    omega
theorem b2s_bsv {st : List Ob} {l : List UInt8} {n : Nat} {f : Fl} : ev st .b2s [.sl (bsv l) n f] = if n = l.length then some (.str l, [], st) else none := b2s_bytes
theorem numF_spec (s : RdS) (most : Int) (hp : s.p ≤ s.l.length) : ∃ (n : Nat) (p : Nat) (e : Int), numF s most = ((n : Int), ⟨s.l, p, e⟩) ∧ n < 4294967296 ∧ p ≤ s.l.length := by
  unfold numF
  split
  · exact ⟨0, s.p, s.e, rfl, by omega, hp⟩
  · split
    · exact ⟨0, s.p, 4, rfl, by omega, hp⟩
    · split
      · exact ⟨0, s.p, 5, rfl, by omega, hp⟩
      · rename_i h0 h1 h2
        refine ⟨_, s.p + 4, s.e, rfl, num4_lt _ (by simp; omega), by omega⟩
def minI (a b : Int) : Int := if b < a then b else a
def textF (s : RdS) (most : Int) : List UInt8 × RdS :=
  match numF s (minI most 16384) with
  | (n, s1) => if s1.e ≠ 0 then ([], s1) else if (s1.l.length : Int) - s1.p < n then ([], { s1 with p := s.p, e := 4 })
    else ((s1.l.take (s1.p + n.toNat)).drop s1.p, { s1 with p := s1.p + n.toNat })
set_option maxHeartbeats 2000000 in
theorem f24 (s : RdS) (id : Nat) (st : List Ob) (most : Int) (v : SV) (hv : rdv v s.l) (hl : s.l.length ≤ 1099511627776) (hp : s.p ≤ s.l.length) (h : st[id]? = some (.cells [v, .int .i64 s.p, .int .i64 s.e])) :
    swpF O5 sf24 [.ptr id 0, .int .i64 most] st (fun r st' => r = .str (textF s most).1 ∧ st' = setOb st id [v, .int .i64 (textF s most).2.p, .int .i64 (textF s most).2.e]) := by
  have hlt := ob_lt h
  obtain ⟨n, p, e, hn, hnl, hpl⟩ := numF_spec s (minI most 16384) hp
  have hf : O5 22 [.ptr id 0, .int .i64 (minI most 16384)] st (.int .i64 n) (setOb st id [v, .int .i64 p, .int .i64 e]) := by
    refine .inr ⟨rfl, s, v, id, _, hv, hl, hp, h, rfl, ?_, ?_⟩
    · rw [hn]
    · rw [hn]
  have hm : (if (16384 : Int) < most then 16384 else most) = minI most 16384 := rfl
  have ht : textF s most = if e ≠ 0 then ([], (⟨s.l, p, e⟩ : RdS)) else if (s.l.length : Int) - p < n then ([], ⟨s.l, s.p, 4⟩) else ((s.l.take (p + n)).drop p, ⟨s.l, p + n, e⟩) := by
    unfold textF; rw [hn]; rfl
  rw [ht]
  clear ht hn
  simp (maxSteps := 2000000) (disch := first | omega | (simp only [List.length_append, List.length_cons, List.length_nil, List.length_map] <;> omega)) only [sf24, h, hm, swp_seq, swp_reg, seqK_n, evK_some, appK_eq, srun_nil, srun_cons, stepK_call, swpF_eq, sk_mv, sk_give, sk_nilc, sk_fld, sk_load, sk_min, get_mk, raw_slot, raw_lit, put_some, wb_nil, ev_mv, ev_give, ev_nilc, ev_fld, ev_min, ev_ldP, ldP_some, ro_int, ro_str, ro_ptr, got_int, got_ptr, flg, exc, pubs, pubsFrom, List.map_cons, List.map_nil, List.getD_cons_zero, List.getD_cons_succ, List.set_cons_zero, List.set_cons_succ, List.getElem?_cons_zero, List.getElem?_cons_succ, List.length_cons, List.length_nil, List.replicate_succ, List.replicate_zero, List.cons_append, List.nil_append, Nat.reduceAdd, Nat.reduceSub, Bool.false_eq_true, Option.map_some, ↓reduceIte, Nat.zero_add, ne_eq]
  refine callK_intro hf ?_
  by_cases he : e = 0
  case neg =>
    have hb : (e == 0) = false := by simpa using he
    have hb' : (e != 0) = true := by simpa using he
    simp (maxSteps := 2000000) (disch := first | omega | (simp only [List.length_append, List.length_cons, List.length_nil, List.length_map] <;> omega)) only [hb, hb', he, swp_seq, swp_reg, swp_skip, swp_ret, swp_cond, seqK_n, seqK_r, condK_t, condK_f, evK_some, appK_eq, appC_eq, grd_t, srun_nil, srun_cons, stepK_grd, fin_ret, sk_mv, sk_give, sk_pick, sk_bin, sk_nilc, sk_fld, sk_load, get_mk, raw_slot, raw_lit, put_some, wb_nil, ev_mv, ev_give, ev_pick, ev_nilc, ev_fld, bin_eql, bin_neq, ev_ldP, ldP_some, ro_int, ro_bool, ro_str, ro_ptr, flg, List.map_cons, List.map_nil, List.getD_cons_zero, List.getD_cons_succ, List.set_cons_zero, List.set_cons_succ, List.getElem?_cons_zero, List.getElem?_cons_succ, true_and, Bool.false_eq_true, Option.map_some, ↓reduceIte, Nat.zero_add, not_false_eq_true, setOb_same]
    exact ⟨_, .same, rfl⟩
  subst he
  rcases hv with ⟨rfl, hv⟩ | rfl
  · have hp0 : p = 0 := by rw [hv] at hpl; simpa using hpl
    subst hp0
    by_cases hn0 : n = 0
    · subst hn0
      simp only [hv]
      simp (maxSteps := 2000000) (disch := first | omega | (simp only [List.length_append, List.length_cons, List.length_nil, List.length_map] <;> omega)) only [swp_seq, swp_reg, swp_skip, swp_ret, swp_cond, seqK_n, condK_f, evK_some, appK_eq, appC_eq, grd_t, srun_nil, srun_cons, stepK_grd, fin_ret, sk_mv, sk_give, sk_pick, sk_bin, sk_b2s, sk_nilc, sk_fld, sk_load, sk_store, sk_lenL, sk_slcL, get_mk, raw_slot, raw_lit, put_some, put_none, wb_nil, ev_mv, ev_give, ev_pick, ev_nilc, ev_fld, ev_lenN, bin_add, bin_sub, bin_eql, bin_neq, bin_lss, ev_b2sN, ev_ldP, ldP_some, stP_some, setOb_setOb, slcL_nil_both, ro_int, ro_bool, ro_str, ro_nilS, ro_ptr, flg, List.map_cons, List.map_nil, List.getD_cons_zero, List.getD_cons_succ, List.set_cons_zero, List.set_cons_succ, List.getElem?_cons_zero, List.getElem?_cons_succ, List.length_cons, List.length_nil, Nat.reduceAdd, Nat.reduceLT, Bool.false_eq_true, Option.map_some, ↓reduceIte, decide_false, Nat.zero_add, beq_self_eq_true, bne_self_eq_false, st_int, setOb_same, Int.cast_ofNat_Int, Int.reduceLT, Int.reduceSub, Int.reduceAdd, wrap_i64, not_true_eq_false]
      exact ⟨_, .same, rfl, rfl⟩
    · have hf4 : O5 34 [.ptr id 0, .int .i64 4, .int .i64 s.p] (setOb st id [.nilS, .int .i64 ((0 : Nat) : Int), .int .i64 0]) (.tup []) (setOb (setOb st id [.nilS, .int .i64 ((0 : Nat) : Int), .int .i64 0]) id [.nilS, .int .i64 s.p, .int .i64 4]) :=
        .inl (.inr ⟨rfl, .nilS, _, 0, 4, _, id, setOb_same hlt, rfl, rfl, rfl⟩)
      have hd : (0 : Int) < n := by omega
      have hd2 : (s.l.length : Int) - ((0 : Nat) : Int) < n := by rw [hv]; simpa using hd
      rw [if_neg (by simp), if_pos hd2]
      simp (maxSteps := 2000000) (disch := first | omega | (simp only [List.length_append, List.length_cons, List.length_nil, List.length_map] <;> omega)) only [hd, swp_seq, swp_reg, swp_cond, seqK_n, condK_t, evK_some, appK_eq, appC_eq, grd_t, srun_nil, srun_cons, stepK_call, stepK_grd, sk_mv, sk_give, sk_pick, sk_bin, sk_nilc, sk_fld, sk_load, sk_lenL, get_mk, raw_slot, raw_lit, put_some, wb_nil, ev_mv, ev_give, ev_pick, ev_nilc, ev_fld, ev_lenN, bin_sub, bin_eql, bin_lss, ev_ldP, ldP_some, ro_int, ro_bool, ro_nilS, ro_ptr, got_int, got_ptr, flg, exc, pubs, pubsFrom, List.map_cons, List.map_nil, List.getD_cons_zero, List.getD_cons_succ, List.set_cons_zero, List.set_cons_succ, List.getElem?_cons_zero, List.getElem?_cons_succ, Bool.false_eq_true, Option.map_some, ↓reduceIte, decide_true, Nat.zero_add, beq_self_eq_true, setOb_same, Int.cast_ofNat_Int, Int.reduceSub, wrap_i64]
      refine callK_intro hf4 ?_
      simp (maxSteps := 2000000) (disch := first | omega | (simp only [List.length_append, List.length_cons, List.length_nil, List.length_map] <;> omega)) only [swp_seq, swp_reg, swp_ret, swp_cond, seqK_n, seqK_r, condK_t, evK_some, appK_eq, appC_eq, srun_nil, srun_cons, fin_ret, sk_mv, sk_give, sk_bin, sk_nilc, sk_fld, sk_load, get_mk, raw_slot, raw_lit, put_some, wb_nil, ev_mv, ev_give, ev_nilc, ev_fld, bin_neq, ev_ldP, ldP_some, setOb_setOb, ro_int, ro_str, ro_ptr, flg, List.map_cons, List.map_nil, List.getD_cons_zero, List.getD_cons_succ, List.set_cons_zero, List.set_cons_succ, List.getElem?_cons_zero, List.getElem?_cons_succ, true_and, Bool.false_eq_true, Option.map_some, ↓reduceIte, Nat.zero_add, Int.reduceBNe, setOb_same, Int.cast_ofNat_Int]
      exact ⟨_, .same, rfl⟩
  · have hbl := bsv_len s.l
    by_cases hs : (s.l.length : Int) - p < n
    · have hb : decide ((s.l.length : Int) - p < n) = true := by simpa using hs
      have hf4 : O5 34 [.ptr id 0, .int .i64 4, .int .i64 s.p] (setOb st id [.sl (bsv s.l) s.l.length .ro, .int .i64 (p : Int), .int .i64 0]) (.tup []) (setOb (setOb st id [.sl (bsv s.l) s.l.length .ro, .int .i64 (p : Int), .int .i64 0]) id [.sl (bsv s.l) s.l.length .ro, .int .i64 s.p, .int .i64 4]) :=
        .inl (.inr ⟨rfl, _, _, 0, 4, _, id, setOb_same hlt, rfl, rfl, rfl⟩)
      rw [if_neg (by simp), if_pos hs]
      simp (maxSteps := 2000000) (disch := first | omega | (simp only [List.length_append, List.length_cons, List.length_nil, List.length_map] <;> omega)) only [hb, swp_seq, swp_reg, swp_cond, seqK_n, condK_t, evK_some, appK_eq, appC_eq, grd_t, srun_nil, srun_cons, stepK_call, stepK_grd, sk_mv, sk_give, sk_pick, sk_bin, sk_nilc, sk_fld, sk_load, sk_lenL, get_mk, raw_slot, raw_lit, put_some, wb_nil, ev_mv, ev_give, ev_pick, ev_nilc, ev_fld, ev_lenL, bin_sub, bin_eql, bin_lss, ev_ldP, ldP_some, ro_int, ro_bool, ro_ptr, ro_ro, got_int, got_ptr, flg, exc, pubs, pubsFrom, List.map_cons, List.map_nil, List.getD_cons_zero, List.getD_cons_succ, List.set_cons_zero, List.set_cons_succ, List.getElem?_cons_zero, List.getElem?_cons_succ, Bool.false_eq_true, Option.map_some, ↓reduceIte, Nat.zero_add, beq_self_eq_true, setOb_same, wrap_i64]
      refine callK_intro hf4 ?_
      simp (maxSteps := 2000000) (disch := first | omega | (simp only [List.length_append, List.length_cons, List.length_nil, List.length_map] <;> omega)) only [swp_seq, swp_reg, swp_ret, swp_cond, seqK_n, seqK_r, condK_t, evK_some, appK_eq, appC_eq, srun_nil, srun_cons, fin_ret, sk_mv, sk_give, sk_bin, sk_nilc, sk_fld, sk_load, get_mk, raw_slot, raw_lit, put_some, wb_nil, ev_mv, ev_give, ev_nilc, ev_fld, bin_neq, ev_ldP, ldP_some, setOb_setOb, ro_int, ro_str, ro_ptr, flg, List.map_cons, List.map_nil, List.getD_cons_zero, List.getD_cons_succ, List.set_cons_zero, List.set_cons_succ, List.getElem?_cons_zero, List.getElem?_cons_succ, true_and, Bool.false_eq_true, Option.map_some, ↓reduceIte, Nat.zero_add, Int.reduceBNe, setOb_same]
      exact ⟨_, .same, rfl⟩
    · have hb : decide ((s.l.length : Int) - p < n) = false := by simpa using hs
      rw [if_neg (by simp), if_neg hs]
      simp (maxSteps := 2000000) (disch := first | omega | (simp only [List.length_append, List.length_cons, List.length_nil, List.length_map] <;> omega)) only [hb, swp_seq, swp_reg, swp_skip, swp_cond, seqK_n, condK_f, evK_some, appK_eq, appC_eq, grd_t, srun_nil, srun_cons, stepK_grd, sk_mv, sk_give, sk_pick, sk_bin, sk_b2s, sk_nilc, sk_fld, sk_load, sk_store, sk_lenL, sk_slcL, get_mk, raw_slot, raw_lit, put_some, put_none, wb_nil, ev_mv, ev_give, ev_pick, ev_nilc, ev_fld, ev_lenL, bin_add, bin_sub, bin_eql, bin_neq, bin_lss, ev_ldP, ldP_some, stP_some, setOb_setOb, slcL_both_ro, ro_int, ro_bool, ro_ptr, ro_ro, flg, List.map_cons, List.map_nil, List.getD_cons_zero, List.getD_cons_succ, List.set_cons_zero, List.set_cons_succ, List.getElem?_cons_zero, List.getElem?_cons_succ, List.length_cons, List.length_nil, Nat.reduceAdd, Nat.reduceLT, Bool.false_eq_true, Option.map_some, ↓reduceIte, Nat.mul_one, Nat.zero_add, beq_self_eq_true, bne_self_eq_false, st_int, setOb_same, wrap_i64]
      have hA : ((p : Int) + n - n).toNat = p := by omega
      have hB : ((p : Int) + n).toNat = p + n := by omega
      have hC : ((p : Int) + n - ((p : Int) + n - n)).toNat = n := by omega
      have hlen : n = ((s.l.take (p + n)).drop p).length := by simp; omega
      rw [hA, hB, hC, bsv_take, bsv_drop, b2s_bsv, if_pos hlen]
      simp (maxSteps := 2000000) (disch := first | omega | (simp only [List.length_append, List.length_cons, List.length_nil, List.length_map] <;> omega)) only [swp_ret, seqK_n, evK_some, appK_eq, srun_nil, srun_cons, fin_ret, sk_give, get_mk, raw_slot, put_some, wb_nil, ev_give, ro_str, flg, List.map_cons, List.map_nil, List.getD_cons_zero, List.getD_cons_succ, List.set_cons_zero, List.set_cons_succ, true_and, Bool.false_eq_true, ↓reduceIte]
      exact ⟨_, .same, by simp⟩
/-- Reader.String. -/
def C24 : List SV → List Ob → SV → List Ob → Prop := fun args st r st' => ∃ s v id most, rdv v s.l ∧ s.l.length ≤ 1099511627776 ∧ s.p ≤ s.l.length ∧ st[id]? = some (.cells [v, .int .i64 s.p, .int .i64 s.e]) ∧ args = [.ptr id 0, .int .i64 most] ∧ r = .str (textF s most).1 ∧ st' = setOb st id [v, .int .i64 (textF s most).2.p, .int .i64 (textF s most).2.e]
def O6 : Orc := O5.add 24 C24
theorem s6 : Sound Proofs.Try.prog O6 := s5.add c24 (by kernel_rfl) (by
  rintro args st r st' ⟨s, v, id, most, hv, hl, hp, h, rfl, rfl, rfl⟩
  exact ⟨by simp [sf24], f24 s id st most v hv hl hp h⟩)
end Go.Sh.F
