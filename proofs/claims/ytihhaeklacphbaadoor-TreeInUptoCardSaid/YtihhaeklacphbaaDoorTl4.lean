/-
  Trees: the law TreeAgain, walked.
-/
import Derived.Test.YtihhaeklacphbaaDoorTyM
set_option linter.unusedSimpArgs false
set_option linter.unusedVariables false
namespace Go.Sh.F
open Go.PathLaw Go.TreeLaw Go.Proofs
theorem szT_app : ∀ a b : List F, szT (a ++ b) = szT a + szT b
  | [], b => by simp [szT]
  | f :: r, b => by rw [List.cons_append, szT, szT, szT_app r b]; omega
theorem szT_cut {t : List F} {i : Nat} (h : i < t.length) : szT (t.take i ++ t.drop (i + 1)) + t[i].2.length = szT t := by
  conv => rhs; rw [← List.take_append_drop i t, List.drop_eq_getElem_cons h]
  rw [szT_app, szT_app, szT]
  omega
theorem no_clash {t : List F} {f : F} (hR : rightT t = true) (hf : f ∈ t) {u : List F} (hu : ∀ x ∈ u, x ∈ t) : clashT u f.1 = false := by
  obtain ⟨_, _, _, h⟩ := (right_iff t).1 hR
  unfold clashT
  rw [List.any_eq_false]
  intro x hx
  unfold clashB
  simp [h f hf x (hu x hx), h x (hu x hx) f hf]
/-- A file of a right tree, put again. -/
theorem put_again {t : List F} (hR : rightT t = true) {i : Nat} (hi : i < t.length) (id : Nat) (x : List Ob) : putR t t[i].1 t[i].2 = (0, t) ∧ putO t t[i].1 t[i].2 id = .slo id 0 t.length ∧ putS t t[i].1 t[i].2 x = x ∧ insP t[i].1 t[i].2 t = t := by
  have hs := right_srt hR
  have hf : t[i] ∈ t := List.getElem_mem hi
  obtain ⟨h16, h600, _⟩ := (right_iff t).1 hR
  have hg := Go.TreeLaw.get_at hs hi
  have hh : has t t[i].1 = true := by rw [has_get, hg]; rfl
  have hin : insP t[i].1 t[i].2 t = t := ins_same hs hg
  have hc : canPut t t[i].1 t[i].2 = 0 := by
    have h1 := (h600 _ hf).1
    have h2 := (h600 _ hf).2
    have h3 := no_clash hR hf (u := t) (fun _ h => h)
    unfold canPut
    rw [if_neg (by rw [h1, h3]; simp), if_neg (by rw [hh]; simp; omega)]
  have hP : putR t t[i].1 t[i].2 = (0, t) := by unfold putR; rw [if_pos hR, if_pos hc, hin]
  refine ⟨hP, ?_, ?_, hin⟩
  · unfold putO; rw [hP]; simp [hh]
  · unfold putS; rw [hP]; simp [hh]
/-- A file dropped, and put again. -/
theorem put_back {t : List F} (hR : rightT t = true) {i : Nat} (hi : i < t.length) (id : Nat) (x : List Ob) : putR (delP t[i].1 t) t[i].1 t[i].2 = (0, t) ∧ putO (delP t[i].1 t) t[i].1 t[i].2 id = .sl (t.flatMap fC) t.length (.excl 2) ∧ putS (delP t[i].1 t) t[i].1 t[i].2 x = [] := by
  have hs := right_srt hR
  have hf : t[i] ∈ t := List.getElem_mem hi
  obtain ⟨h16, h600, _⟩ := (right_iff t).1 hR
  have hg := Go.TreeLaw.get_at hs hi
  have hh : has (delP t[i].1 t) t[i].1 = false := has_del _ _
  have hh' : has t t[i].1 = true := by rw [has_get, hg]; rfl
  have hin : insP t[i].1 t[i].2 (delP t[i].1 t) = t := ins_del hs hg
  have hRd := right_del (p := t[i].1) hR
  have hl : (delP t[i].1 t).length < 16 := by
    obtain ⟨hl, _⟩ := (low_has hs).1 hh'
    rw [del_low hs hh', List.length_append, List.length_take, List.length_drop]
    omega
  have hc : canPut (delP t[i].1 t) t[i].1 t[i].2 = 0 := by
    have h1 := (h600 _ hf).1
    have h2 := (h600 _ hf).2
    have h3 := no_clash hR hf (u := delP t[i].1 t) (fun x hx => (del_sub t[i].1 t).subset hx)
    unfold canPut
    rw [if_neg (by rw [h1, h3]; simp), if_neg (by rw [hh]; simp; omega)]
  have hP : putR (delP t[i].1 t) t[i].1 t[i].2 = (0, t) := by unfold putR; rw [if_pos hRd, if_pos hc, hin]
  refine ⟨hP, ?_, ?_⟩
  · unfold putO; rw [hP]; simp [hh]
  · unfold putS; rw [hP]; simp [hh]
theorem drop_at {t : List F} (hR : rightT t = true) {i : Nat} (hi : i < t.length) : dropV t t[i].1 = .tup [.sl ((delP t[i].1 t).flatMap fC) (t.length - 1) (.excl 2), .int .i64 0] ∧ (delP t[i].1 t).length = t.length - 1 ∧ szT (delP t[i].1 t) + t[i].2.length = szT t ∧ findR t t[i].1 = (i : Int) := by
  have hs := right_srt hR
  have hg := Go.TreeLaw.get_at hs hi
  have hh : has t t[i].1 = true := by rw [has_get, hg]; rfl
  have hlo := low_at hs hi
  have hd := del_low hs hh
  rw [hlo] at hd
  rcases drop_cases t t[i].1 with ⟨a, _⟩ | ⟨_, a, _⟩ | ⟨_, _, _, hl, a, b⟩
  · rw [hR] at a; cases a
  · rw [hh] at a; cases a
  · refine ⟨by rw [b, a], by rw [hd, List.length_append, List.length_take, List.length_drop]; omega, by rw [hd]; exact szT_cut hi, ?_⟩
    unfold findR
    rw [if_pos ⟨hR, hh⟩, hlo]
set_option maxHeartbeats 100000000 in
set_option maxRecDepth 100000 in
theorem l6 (v : SV) (t : List F) (k : Int) (st : List Ob) (hv' : rdR fC v t) (hs : smT t) (ho : okSt st) : swpF O330 sf6 [v, .int .i64 k] st (fun r _ => r = .bool true) := by
  have hv := rd_F hv' st
  obtain ⟨q1, q2, q3, q4, q6, q7⟩ := RowAt.facts hv
  have q5 := RowAt.lenL hv
  have z0 : ((0 : Int) == 0) = true := rfl
  simp (maxSteps := 2000000) (disch := first | omega | (simp only [List.length_append, List.length_cons, List.length_nil, List.length_map] <;> omega)) only [sf6, List.set_cons_zero, List.set_cons_succ, flg_bool, swp_seq, swp_reg, seqK_n, evK_some, appK_eq, srun_nil, srun_cons, stepK_call, swpF_eq, sk_give, raw_lit, put_some, wb_nil, ev_give, ro_bool, pubs, pubsFrom, List.map_cons, List.map_nil, List.set_cons_zero, List.set_cons_succ, List.length_cons, List.length_nil, List.replicate_succ, List.replicate_zero, List.cons_append, List.nil_append, Nat.reduceAdd, Nat.reduceSub, Bool.false_eq_true, ↓reduceIte, Nat.zero_add]
  refine callK_intro (nS ho) ?_
  simp (maxSteps := 2000000) (disch := first | omega | (simp only [List.length_append, List.length_cons, List.length_nil, List.length_map] <;> omega)) only [q1, q2, q3, List.set_cons_zero, List.set_cons_succ, flg_bool, swp_seq, swp_reg, seqK_n, evK_some, appK_eq, appC_eq, srun_nil, srun_cons, stepK_call, sk_mv, sk_give, get_mk, raw_slot, put_some, wb_nil, ev_mv, ev_give, ro_bool, pubs, pubsFrom, List.map_cons, List.map_nil, List.getD_cons_zero, List.getD_cons_succ, List.set_cons_zero, List.set_cons_succ, Bool.false_eq_true, ↓reduceIte]
  refine callK_intro (up (n11 hv hs.1)) ?_
  cases hF : fewT t with
  | false =>
    simp (maxSteps := 2000000) (disch := first | omega | (simp only [List.length_append, List.length_cons, List.length_nil, List.length_map] <;> omega)) only [Bool.not_false, List.set_cons_zero, List.set_cons_succ, flg_bool, swp_seq, swp_reg, swp_ret, swp_cond, seqK_n, seqK_r, condK_t, evK_some, appK_eq, appC_eq, grd_t, srun_nil, srun_cons, stepK_grd, fin_ret, sk_mv, sk_give, sk_pick, sk_un, get_mk, raw_slot, raw_lit, put_some, wb_nil, ev_mv, ev_give, ev_pick, ev_not, ro_bool, List.map_cons, List.map_nil, List.getD_cons_zero, List.getD_cons_succ, List.set_cons_zero, List.set_cons_succ, and_true, Bool.false_eq_true, ↓reduceIte, reduceCtorEq, Bool.not_false]
    first | exact ⟨_, .same, rfl⟩ | exact ⟨_, .same⟩
  | true =>
  simp (maxSteps := 2000000) (disch := first | omega | (simp only [List.length_append, List.length_cons, List.length_nil, List.length_map] <;> omega)) only [Bool.not_true, q2, q3, List.set_cons_zero, List.set_cons_succ, flg_bool, swp_seq, swp_reg, seqK_n, evK_some, appK_eq, appC_eq, grd_t, srun_nil, srun_cons, stepK_call, stepK_grd, sk_mv, sk_take, sk_give, sk_un, get_mk, raw_slot, put_some, wb_nil, ev_mv, ev_take, ev_give, ev_not, ro_bool, pubs, pubsFrom, List.map_cons, List.map_nil, List.getD_cons_zero, List.getD_cons_succ, List.set_cons_zero, List.set_cons_succ, Bool.false_eq_true, ↓reduceIte, Bool.not_true]
  refine callK_intro (up (n19 hv hs ho)) ?_
  cases hR : rightT t with
  | false =>
    simp (maxSteps := 2000000) (disch := first | omega | (simp only [List.length_append, List.length_cons, List.length_nil, List.length_map] <;> omega)) only [Bool.not_false, List.set_cons_zero, List.set_cons_succ, flg_bool, swp_seq, swp_reg, swp_ret, swp_cond, seqK_n, seqK_r, condK_t, evK_some, appK_eq, appC_eq, grd_t, srun_nil, srun_cons, stepK_grd, fin_ret, sk_mv, sk_give, sk_pick, sk_un, get_mk, raw_slot, raw_lit, put_some, wb_nil, ev_mv, ev_give, ev_pick, ev_not, ro_bool, List.map_cons, List.map_nil, List.getD_cons_zero, List.getD_cons_succ, List.set_cons_zero, List.set_cons_succ, and_true, Bool.false_eq_true, ↓reduceIte, reduceCtorEq, Bool.not_false]
    first | exact ⟨_, .same, rfl⟩ | exact ⟨_, .same⟩
  | true =>
  rcases bf (decide (k < (0 : Int))) with h1 | h1
  rotate_left
  · simp (maxSteps := 2000000) (disch := first | omega | (simp only [List.length_append, List.length_cons, List.length_nil, List.length_map] <;> omega)) only [h1, Bool.not_true, List.set_cons_zero, List.set_cons_succ, flg_bool, exc_int, swp_seq, swp_reg, swp_ret, swp_cond, seqK_n, seqK_r, condK_t, evK_some, appK_eq, appC_eq, grd_t, srun_nil, srun_cons, stepK_grd, fin_ret, sk_mv, sk_take, sk_give, sk_pick, sk_bin, sk_un, get_mk, raw_slot, raw_lit, put_some, wb_nil, ev_mv, ev_take, ev_give, ev_pick, ev_not, bin_lss, ro_bool, got_int, List.map_cons, List.map_nil, List.getD_cons_zero, List.getD_cons_succ, List.set_cons_zero, List.set_cons_succ, and_true, Bool.false_eq_true, ↓reduceIte, reduceCtorEq, Bool.not_true]
    first | exact ⟨_, .same, rfl⟩ | exact ⟨_, .same⟩
  rcases bf (decide ((t.length : Int) ≤ k)) with h2 | h2
  rotate_left
  · simp (maxSteps := 2000000) (disch := first | omega | (simp only [List.length_append, List.length_cons, List.length_nil, List.length_map] <;> omega)) only [h1, h2, ge_iff_le, Bool.not_true, q2, q3, q5, List.set_cons_zero, List.set_cons_succ, flg_bool, exc_int, swp_seq, swp_reg, swp_ret, swp_cond, seqK_n, seqK_r, condK_t, evK_some, appK_eq, appC_eq, grd_t, srun_nil, srun_cons, stepK_grd, fin_ret, sk_mv, sk_take, sk_give, sk_pick, sk_bin, sk_un, sk_lenL, get_mk, raw_slot, raw_lit, put_some, wb_nil, ev_mv, ev_take, ev_give, ev_pick, ev_not, bin_lss, bin_geq, ro_bool, got_int, List.map_cons, List.map_nil, List.getD_cons_zero, List.getD_cons_succ, List.set_cons_zero, List.set_cons_succ, and_true, Bool.false_eq_true, ↓reduceIte, Bool.not_true, ge_iff_le]
    first | exact ⟨_, .same, rfl⟩ | exact ⟨_, .same⟩
  have h1' : 0 ≤ k := by have := of_decide_eq_false h1; omega
  have h2' : k < (t.length : Int) := by have := of_decide_eq_false h2; omega
  obtain ⟨i, rfl⟩ : ∃ i : Nat, k = (i : Int) := ⟨k.toNat, by omega⟩
  have hi : i < t.length := by omega
  have b1 := RowAt.idxB hv hi .i64
  have b2 := RowF.ld' hv hi
  simp only [fC] at b2
  have hpd := hs.2 _ (List.getElem_mem hi)
  have hv0 : RowF (st ++ [.cells [.str t[i].1, .str t[i].2]]) v t := hv.mono _
  have ho0 : okSt (st ++ [.cells [.str t[i].1, .str t[i].2]]) := okSt_appL ho rfl
  have sS := st_aggA (st := st) (l := [.cells [.str [], .str []]]) (i := 0) (n := 2) (b := true) (xs := [.str t[i].1, .str t[i].2]) rfl rfl rfl rfl rfl
  simp only [List.set_cons_zero, Nat.add_zero] at sS
  simp (maxSteps := 2000000) (disch := first | omega | (simp only [List.length_append, List.length_cons, List.length_nil, List.length_map] <;> omega)) only [h1, h2, ge_iff_le, b1, b2, sS, Bool.not_true, q1, q2, q3, q5, getA0, Nat.add_zero, List.set_cons_zero, List.set_cons_succ, exc_int, exc_str, sk_idxB, swp_seq, swp_reg, swp_skip, swp_cond, seqK_n, condK_f, evK_some, appK_eq, appC_eq, grd_t, srun_nil, srun_cons, stepK_call, stepK_grd, sk_mv, sk_take, sk_pick, sk_bin, sk_un, sk_fld, sk_load, sk_store, sk_lenL, sk_alloc, get_mk, raw_slot, raw_lit, put_some, put_none, wb_nil, ev_mv, ev_take, ev_pick, ev_not, ev_fld, bin_lss, bin_geq, ev_alloc, ev_ldP, ldP_some, ro_int, ro_bool, ro_str, got_int, got_str, pubs, pubsFrom, List.map_cons, List.map_nil, List.getD_cons_zero, List.getD_cons_succ, List.set_cons_zero, List.set_cons_succ, List.getElem?_cons_zero, List.getElem?_cons_succ, Bool.false_eq_true, Option.map_some, ↓reduceIte, Nat.zero_add, Bool.not_true, ge_iff_le]
  refine callK_intro (up (n12 hv0 hs hpd.1 hpd.2 ho0)) ?_
  obtain ⟨e1, e2, e3, e4⟩ := put_again hR hi ((st ++ [Ob.cells [.str t[i].1, .str t[i].2]]).length + 2) [.cells [.str t[i].1], .cells [.str t[i].1, .str t[i].2], .cells ((insP t[i].1 t[i].2 t).flatMap fC)]
  rw [e1, e2, e3, e4, show (st ++ [Ob.cells [.str t[i].1, .str t[i].2]]).length + 2 = st.length + 3 by simp]
  have hv1 : RowF (st ++ [.cells [.str t[i].1, .str t[i].2], .cells [.str t[i].1], .cells [.str t[i].1, .str t[i].2], .cells (t.flatMap fC)]) v t := hv.mono _
  have ho1 : okSt (st ++ [.cells [.str t[i].1, .str t[i].2], .cells [.str t[i].1], .cells [.str t[i].1, .str t[i].2], .cells (t.flatMap fC)]) := okSt_appL ho (by simp [obOk, idOks, idOk, idOks_fC])
  have hx1 : RowF (st ++ [.cells [.str t[i].1, .str t[i].2], .cells [.str t[i].1], .cells [.str t[i].1, .str t[i].2], .cells (t.flatMap fC)]) (.slo (st.length + 3) 0 t.length) t := slo_row (i := 3) rfl rfl
  obtain ⟨d1, d2, d3, d4⟩ := drop_at hR hi
  have hRd := right_del (p := t[i].1) hR
  have hsd := smT_del (p := t[i].1) hs
  simp (maxSteps := 2000000) (disch := first | omega | (simp only [List.length_append, List.length_cons, List.length_nil, List.length_map] <;> omega)) only [q1, q2, q3, getA0, List.append_assoc, Nat.add_zero, List.set_cons_zero, List.set_cons_succ, sk_giveP, ev_giveP, ro_slo, ro2_slo, flg_slo, flg_int, exc_str, swp_seq, swp_reg, seqK_n, evK_some, appK_eq, appC_eq, srun_nil, srun_cons, stepK_call, sk_mv, sk_give, sk_fld, sk_load, sk_ext, get_mk, raw_slot, put_some, wb_nil, ev_mv, ev_give, ev_fld, ev_ext, ev_ldP, ldP_some, ro_int, ro_str, ro_tup, ro2_int, got_str, pubs, pubsFrom, List.map_cons, List.map_nil, List.getD_cons_zero, List.getD_cons_succ, List.set_cons_zero, List.set_cons_succ, List.getElem?_cons_zero, List.getElem?_cons_succ, List.cons_append, List.nil_append, Bool.false_eq_true, Option.map_some, ↓reduceIte]
  refine callK_intro (up (n14 hv1 hs ho1)) ?_
  rw [d1]
  simp (maxSteps := 2000000) (disch := first | omega | (simp only [List.length_append, List.length_cons, List.length_nil, List.length_map] <;> omega)) only [getA0, Nat.add_zero, List.set_cons_zero, List.set_cons_succ, sk_giveP, ev_giveP, pub_excl2, flg_int, flg_excl, exc_str, exc_own, swp_seq, swp_reg, seqK_n, evK_some, appK_eq, appC_eq, srun_nil, srun_cons, stepK_call, sk_mv, sk_give, sk_fld, sk_load, sk_ext, get_mk, raw_slot, put_some, wb_nil, wb_cons, ev_mv, ev_give, ev_fld, ev_ext, ev_ldP, ldP_some, ro_int, ro_str, ro_own, ro_excl, ro_tup, ro2_int, got_own, got_str, pubs, pubsFrom, List.map_cons, List.map_nil, List.getD_cons_zero, List.getD_cons_succ, List.set_cons_zero, List.set_cons_succ, List.getElem?_cons_zero, List.getElem?_cons_succ, Bool.false_eq_true, Option.map_some, ↓reduceIte, Nat.zero_add]
  have hy := ro_row (st := st ++ [.cells [.str t[i].1, .str t[i].2], .cells [.str t[i].1], .cells [.str t[i].1, .str t[i].2], .cells (t.flatMap fC)]) d2
  refine callK_intro (up (n12 hy hsd hpd.1 hpd.2 ho1)) ?_
  obtain ⟨g1, g2, g3⟩ := put_back hR hi ((st ++ [Ob.cells [.str t[i].1, .str t[i].2], .cells [.str t[i].1], .cells [.str t[i].1, .str t[i].2], .cells (t.flatMap fC)]).length + 2) [.cells [.str t[i].1], .cells [.str t[i].1, .str t[i].2], .cells ((insP t[i].1 t[i].2 (delP t[i].1 t)).flatMap fC)]
  rw [g1, g2, g3]
  have hz := ro_row (st := st ++ [.cells [.str t[i].1, .str t[i].2], .cells [.str t[i].1], .cells [.str t[i].1, .str t[i].2], .cells (t.flatMap fC)]) (u := t) rfl
  have zi : ((i : Int) == (i : Int)) = true := beq_self_eq_true _
  have zt : decide (t = t) = true := decide_eq_true rfl
  have hsz : ∀ f ∈ t, f.2.length ≤ 268435456 := fun f hf => (hs.2 f hf).2
  have hszd : ∀ f ∈ delP t[i].1 t, f.2.length ≤ 268435456 := fun f hf => (hsd.2 f hf).2
  simp (maxSteps := 2000000) (disch := first | omega | (simp only [List.length_append, List.length_cons, List.length_nil, List.length_map] <;> omega)) only [z0, List.append_nil, q1, q2, q3, List.set_cons_zero, List.set_cons_succ, sk_giveP, ev_giveP, pub_excl2, ro_slo, got_slo, exc_slo, flg_int, flg_excl, swp_seq, swp_reg, seqK_n, evK_some, appK_eq, appC_eq, grd_t, srun_nil, srun_cons, stepK_call, stepK_grd, sk_mv, sk_give, sk_pick, sk_bin, sk_ext, get_mk, raw_slot, raw_lit, put_some, wb_nil, wb_cons, ev_mv, ev_give, ev_pick, ev_ext, bin_eql, ro_int, ro_bool, ro_excl, ro_tup, ro2_int, pubs, pubsFrom, List.map_cons, List.map_nil, List.getD_cons_zero, List.getD_cons_succ, List.set_cons_zero, List.set_cons_succ, List.getElem?_cons_zero, List.getElem?_cons_succ, Bool.false_eq_true, Option.map_some, ↓reduceIte, List.append_nil]
  refine callK_intro (up (n23 hx1 hv1 hs.1)) ?_
  simp (maxSteps := 2000000) (disch := first | omega | (simp only [List.length_append, List.length_cons, List.length_nil, List.length_map] <;> omega)) only [z0, q1, q2, q3, getA0, Nat.add_zero, List.set_cons_zero, List.set_cons_succ, exc_str, evK_some, appK_eq, appC_eq, grd_t, srun_cons, stepK_call, stepK_grd, sk_mv, sk_pick, sk_bin, sk_fld, sk_load, get_mk, raw_slot, raw_lit, put_some, wb_nil, ev_mv, ev_pick, ev_fld, bin_eql, ev_ldP, ldP_some, ro_int, ro_bool, ro_str, got_str, pubs, pubsFrom, List.map_cons, List.map_nil, List.getD_cons_zero, List.getD_cons_succ, List.set_cons_zero, List.set_cons_succ, List.getElem?_cons_zero, Bool.false_eq_true, Option.map_some, ↓reduceIte, decide_true]
  refine callK_intro (up (n21 hv1 hs ho1)) ?_
  rw [d4]
  simp (maxSteps := 2000000) (disch := first | omega | (simp only [List.length_append, List.length_cons, List.length_nil, List.length_map] <;> omega)) only [z0, zi, q1, q2, q3, List.set_cons_zero, List.set_cons_succ, exc_ro, evK_some, appK_eq, appC_eq, grd_t, srun_cons, stepK_call, stepK_grd, sk_mv, sk_pick, sk_bin, get_mk, raw_slot, raw_lit, put_some, wb_nil, ev_mv, ev_pick, bin_eql, ro_int, ro_bool, ro_own, got_roo, pubs, pubsFrom, List.map_cons, List.map_nil, List.getD_cons_zero, List.getD_cons_succ, List.set_cons_zero, List.set_cons_succ, Bool.false_eq_true, ↓reduceIte]
  refine callK_intro (up (n23 hz hv1 hs.1)) ?_
  simp (maxSteps := 2000000) (disch := first | omega | (simp only [List.length_append, List.length_cons, List.length_nil, List.length_map] <;> omega)) only [q1, List.set_cons_zero, List.set_cons_succ, seqK_n, evK_some, appK_eq, appC_eq, grd_t, srun_nil, srun_cons, stepK_grd, sk_mv, sk_pick, sk_fld, get_mk, raw_slot, raw_lit, put_some, wb_nil, ev_mv, ev_pick, ev_fld, ro_bool, ro_own, List.map_cons, List.map_nil, List.getD_cons_zero, List.getD_cons_succ, List.set_cons_zero, List.set_cons_succ, ↓reduceIte, decide_true, Nat.zero_add]
  have e9 : IntKind.i64.wrap ((szT t : Int) - (t[i].2.length : Int)) = (szT (delP t[i].1 t) : Int) := by
    have a := szT_le t 1000 (fun f hf => ((fewT_iff hF).2 f hf).2)
    have b := (fewT_iff hF).1
    have c : t.length * 1000 ≤ 40 * 1000 := Nat.mul_le_mul_right _ b
    rw [wrap_i64 (by omega) (by omega)]; omega
  have zs : (((szT (delP t[i].1 t) : Nat) : Int) == ((szT (delP t[i].1 t) : Nat) : Int)) = true := beq_self_eq_true _
  have cy := up (n24 hy hsd.1 hszd ho1)
  have ct := up (n24 hv1 hs.1 hsz ho1)
  repeat' first
    | simp (maxSteps := 2000000) (disch := first | omega | (simp only [List.length_append, List.length_cons, List.length_nil, List.length_map] <;> omega)) only [e9, zs, q2, q3, getA0, List.set_cons_zero, List.set_cons_succ, flg_bool, exc_ro, swp_seq, swp_reg, swp_ret, swp_both, seqK_n, evK_some, appK_eq, appC_eq, grd_t, srun_nil, srun_cons, stepK_call, stepK_grd, fin_ret, sk_give, sk_pick, sk_bin, sk_load, sk_lenS, get_mk, raw_slot, raw_lit, put_some, wb_nil, ev_give, ev_pick, ev_lenS, bin_sub, bin_eql, ev_ldP, ldP_some, ro_bool, ro_str, got_roo, pubs, pubsFrom, List.map_cons, List.map_nil, List.getD_cons_zero, List.getD_cons_succ, List.set_cons_zero, List.set_cons_succ, List.getElem?_cons_zero, List.getElem?_cons_succ, and_true, Bool.false_eq_true, Option.map_some, ↓reduceIte]
    | exact ⟨_, .same, rfl⟩
    | exact ⟨_, .same⟩
    | exact swp_ttI
    | refine swp_bothI ?_ ?_
    | refine callK_intro cy ?_
    | refine callK_intro ct ?_
end Go.Sh.F
