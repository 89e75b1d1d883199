/-
  Trees: the law TreeIn, walked.
-/
import Derived.Test.YtihhaeklacphbaaDoorTl4
set_option linter.unusedSimpArgs false
set_option linter.unusedVariables false
namespace Go.Sh.F
open Go.PathLaw Go.TreeLaw Go.Proofs
theorem u29 {v : SV} {l : List (List UInt8)} (hl : smA l) (hv : rdS v l) (st : List Ob) : O330 29 [v] st (.bool (sortedB l)) st := (by repeat first | exact Or.inr ⟨rfl, rfl, v, l, hl, hv, rfl, rfl⟩ | refine Or.inl ?_)
theorem u30c {a b : List UInt8} (ha : sm a) (hb : sm b) (s : List Ob) : O330 30 [.str a, .str b] s (.bool (underB a b)) s := (by repeat first | exact Or.inr ⟨rfl, rfl, a, b, ha, hb, rfl, rfl⟩ | refine Or.inl ?_)
theorem u31 {a : List UInt8} (ha : sm a) (s : List Ob) : O330 31 [.str a] s (.str (parentB a)) s := (by repeat first | exact Or.inr ⟨rfl, rfl, a, ha, rfl, rfl⟩ | refine Or.inl ?_)
theorem parent_smT {s : List UInt8} (hs : sm s) : sm (parentB s) := by
  by_cases h : parentB s = []
  · rw [h]; unfold sm; simp
  · obtain ⟨hu, _⟩ := parent_under h
    obtain ⟨_, _, t, e⟩ := under_iff.1 hu
    have := congrArg List.length e
    rw [List.length_append] at this
    unfold sm at hs ⊢
    omega
theorem in_sorted {t : List F} (hR : rightT t = true) (d : List UInt8) : sortedB (inT t d) = true := by
  obtain ⟨_, h2, h3, _⟩ := (right_iff t).1 hR
  rw [sorted_iff]
  constructor
  · intro x hx
    unfold inT at hx
    obtain ⟨f, hf, rfl⟩ := List.mem_map.1 hx
    exact (h2 f (List.mem_filter.1 hf).1).1
  · unfold inT
    rw [List.pairwise_map]
    exact h3.sublist List.filter_sublist
theorem in_smA {t : List F} (hs : smT t) (d : List UInt8) : smA (inT t d) := by
  refine ⟨fun x hx => ?_, by have := inT_len t d; have := hs.1; omega⟩
  unfold inT at hx
  obtain ⟨f, hf, rfl⟩ := List.mem_map.1 hx
  exact (hs.2 f (List.mem_filter.1 hf).1).1
theorem in_file {t : List F} (hR : rightT t = true) {i : Nat} (hi : i < t.length) : inT t t[i].1 = [] := by
  obtain ⟨_, _, _, h⟩ := (right_iff t).1 hR
  unfold inT
  rw [List.map_eq_nil_iff, List.filter_eq_nil_iff]
  intro f hf
  rw [h f hf t[i] (List.getElem_mem hi)]
  simp
theorem in_not {t : List F} (hR : rightT t = true) {d : List UInt8} (h : inT t d ≠ []) : findR t d = -1 := by
  unfold findR
  rw [if_neg]
  rintro ⟨_, hh⟩
  obtain ⟨hl, e⟩ := (low_has (right_srt hR)).1 hh
  have := in_file hR hl
  rw [e] at this
  exact h this
theorem in_parent {t : List F} (hR : rightT t = true) {i : Nat} (hi : i < t.length) (hp : parentB t[i].1 ≠ []) : inT t (parentB t[i].1) ≠ [] := by
  unfold inT
  rw [Ne, List.map_eq_nil_iff, List.filter_eq_nil_iff]
  intro h
  exact h t[i] (List.getElem_mem hi) (parent_under hp).1
def cntU (t : List F) (d : List UInt8) : Nat := (inT t d).length
theorem cnt_succ {t : List F} {i : Nat} (h : i < t.length) (d : List UInt8) : cntU (t.take (i + 1)) d = cntU (t.take i) d + (if underB t[i].1 d = true then 1 else 0) := by
  unfold cntU
  rw [take_sucF h, inT_snoc, List.length_append]
  split <;> simp
theorem cnt_le (t : List F) (i : Nat) (d : List UInt8) : cntU (t.take i) d ≤ i := by
  have := inT_len (t.take i) d
  unfold cntU
  rw [List.length_take] at this
  omega
set_option maxHeartbeats 100000000 in
set_option maxRecDepth 100000 in
theorem l9 (v : SV) (t : List F) (d : List UInt8) (st : List Ob) (hv' : rdR fC v t) (hs : smT t) (hd' : sm d) (ho : okSt st) : swpF O330 sf9 [v, .str d] st (fun r _ => r = .bool true) := by
  have hv := rd_F hv' st
  obtain ⟨q1, q2, q3, q4, q6, q7⟩ := RowAt.facts hv
  have q5 := RowAt.lenL hv
  have z0 : ((0 : Int) == 0) = true := rfl
  simp (maxSteps := 2000000) (disch := first | omega | (simp only [List.length_append, List.length_cons, List.length_nil, List.length_map] <;> omega)) only [sf9, List.set_cons_zero, List.set_cons_succ, flg_bool, swp_seq, swp_reg, seqK_n, evK_some, appK_eq, srun_nil, srun_cons, stepK_call, swpF_eq, sk_give, raw_lit, put_some, wb_nil, ev_give, ro_bool, pubs, pubsFrom, List.map_cons, List.map_nil, List.set_cons_zero, List.set_cons_succ, List.length_cons, List.length_nil, List.replicate_succ, List.replicate_zero, List.cons_append, List.nil_append, Nat.reduceAdd, Nat.reduceSub, Bool.false_eq_true, ↓reduceIte, Nat.zero_add]
  refine callK_intro (nS ho) ?_
  simp (maxSteps := 2000000) (disch := first | omega | (simp only [List.length_append, List.length_cons, List.length_nil, List.length_map] <;> omega)) only [q1, q2, q3, List.set_cons_zero, List.set_cons_succ, flg_bool, swp_seq, swp_reg, seqK_n, evK_some, appK_eq, appC_eq, srun_nil, srun_cons, stepK_call, sk_mv, sk_give, get_mk, raw_slot, put_some, wb_nil, ev_mv, ev_give, ro_bool, pubs, pubsFrom, List.map_cons, List.map_nil, List.getD_cons_zero, List.getD_cons_succ, List.set_cons_zero, List.set_cons_succ, Bool.false_eq_true, ↓reduceIte]
  refine callK_intro (up (n11 hv hs.1)) ?_
  cases hF : fewT t with
  | false =>
    simp (maxSteps := 2000000) (disch := first | omega | (simp only [List.length_append, List.length_cons, List.length_nil, List.length_map] <;> omega)) only [Bool.not_false, List.set_cons_zero, List.set_cons_succ, flg_bool, swp_seq, swp_reg, swp_ret, swp_cond, seqK_n, seqK_r, condK_t, evK_some, appK_eq, appC_eq, grd_t, srun_nil, srun_cons, stepK_grd, fin_ret, sk_mv, sk_give, sk_pick, sk_un, get_mk, raw_slot, raw_lit, put_some, wb_nil, ev_mv, ev_give, ev_pick, ev_not, ro_bool, List.map_cons, List.map_nil, List.getD_cons_zero, List.getD_cons_succ, List.set_cons_zero, List.set_cons_succ, and_true, Bool.false_eq_true, ↓reduceIte, reduceCtorEq, Bool.not_false]
    first | exact ⟨_, .same, rfl⟩ | exact ⟨_, .same⟩
  | true =>
  simp (maxSteps := 2000000) (disch := first | omega | (simp only [List.length_append, List.length_cons, List.length_nil, List.length_map] <;> omega)) only [Bool.not_true, q2, q3, List.set_cons_zero, List.set_cons_succ, flg_bool, swp_seq, swp_reg, seqK_n, evK_some, appK_eq, appC_eq, grd_t, srun_nil, srun_cons, stepK_call, stepK_grd, sk_mv, sk_take, sk_give, sk_un, get_mk, raw_slot, put_some, wb_nil, ev_mv, ev_take, ev_give, ev_not, ro_bool, pubs, pubsFrom, List.map_cons, List.map_nil, List.getD_cons_zero, List.getD_cons_succ, List.set_cons_zero, List.set_cons_succ, Bool.false_eq_true, ↓reduceIte, Bool.not_true]
  refine callK_intro (up (n19 hv hs ho)) ?_
  cases hR : rightT t with
  | false =>
    simp (maxSteps := 2000000) (disch := first | omega | (simp only [List.length_append, List.length_cons, List.length_nil, List.length_map] <;> omega)) only [Bool.not_false, List.set_cons_zero, List.set_cons_succ, flg_bool, swp_seq, swp_reg, swp_ret, swp_cond, seqK_n, seqK_r, condK_t, evK_some, appK_eq, appC_eq, grd_t, srun_nil, srun_cons, stepK_grd, fin_ret, sk_mv, sk_give, sk_pick, sk_un, get_mk, raw_slot, raw_lit, put_some, wb_nil, ev_mv, ev_give, ev_pick, ev_not, ro_bool, List.map_cons, List.map_nil, List.getD_cons_zero, List.getD_cons_succ, List.set_cons_zero, List.set_cons_succ, and_true, Bool.false_eq_true, ↓reduceIte, reduceCtorEq, Bool.not_false]
    first | exact ⟨_, .same, rfl⟩ | exact ⟨_, .same⟩
  | true =>
  rcases bf (decide ((100 : Int) < (d.length : Int))) with h1 | h1
  rotate_left
  · simp (maxSteps := 2000000) (disch := first | omega | (simp only [List.length_append, List.length_cons, List.length_nil, List.length_map] <;> omega)) only [h1, Bool.not_true, List.set_cons_zero, List.set_cons_succ, flg_bool, exc_str, swp_seq, swp_reg, swp_ret, swp_cond, seqK_n, seqK_r, condK_t, evK_some, appK_eq, appC_eq, grd_t, srun_nil, srun_cons, stepK_grd, fin_ret, sk_mv, sk_take, sk_give, sk_pick, sk_bin, sk_un, sk_lenS, get_mk, raw_slot, raw_lit, put_some, wb_nil, ev_mv, ev_take, ev_give, ev_pick, ev_not, ev_lenS, bin_gtr, ro_bool, got_str, List.map_cons, List.map_nil, List.getD_cons_zero, List.getD_cons_succ, List.set_cons_zero, List.set_cons_succ, and_true, Bool.false_eq_true, ↓reduceIte, Bool.not_true, gt_iff_lt]
    first | exact ⟨_, .same, rfl⟩ | exact ⟨_, .same⟩
  have h16 : t.length ≤ 16 := ((right_iff t).1 hR).1
  have eR : ∀ x, inR t x = inT t x := fun x => by unfold inR; rw [if_pos hR]
  have hso := in_sorted hR d
  have hsa := in_smA hs d
  simp (maxSteps := 2000000) (disch := first | omega | (simp only [List.length_append, List.length_cons, List.length_nil, List.length_map] <;> omega)) only [h1, Bool.not_true, q1, q2, q3, List.set_cons_zero, List.set_cons_succ, exc_str, swp_seq, swp_reg, swp_skip, swp_cond, seqK_n, condK_f, evK_some, appK_eq, appC_eq, grd_t, srun_nil, srun_cons, stepK_call, stepK_grd, sk_mv, sk_take, sk_pick, sk_bin, sk_un, sk_lenS, get_mk, raw_slot, raw_lit, put_some, wb_nil, ev_mv, ev_take, ev_pick, ev_not, ev_lenS, bin_gtr, ro_bool, ro_str, got_str, pubs, pubsFrom, List.map_cons, List.map_nil, List.getD_cons_zero, List.getD_cons_succ, List.set_cons_zero, List.set_cons_succ, Bool.false_eq_true, ↓reduceIte, Bool.not_true, gt_iff_lt]
  refine callK_intro (up (n27 hv hs hd' ho)) ?_
  rw [eR]
  have hlen := inT_len t d
  rcases inV_or (inT t d) with ⟨hn, e⟩ | ⟨hn, e⟩
  · have hz := hsa
    rw [hn] at hz hso
    rw [e]
    simp (maxSteps := 2000000) (disch := first | omega | (simp only [List.length_append, List.length_cons, List.length_nil, List.length_map] <;> omega)) only [List.set_cons_zero, List.set_cons_succ, flg_nilS, exc_nilS, swp_seq, swp_reg, seqK_n, evK_some, appK_eq, appC_eq, srun_nil, srun_cons, stepK_call, sk_mv, sk_give, get_mk, raw_slot, put_some, wb_nil, ev_mv, ev_give, ro_nilS, got_nilS, pubs, pubsFrom, List.map_cons, List.map_nil, List.getD_cons_zero, List.getD_cons_succ, List.set_cons_zero, List.set_cons_succ, Bool.false_eq_true, ↓reduceIte]
    refine callK_intro (u29 hz (.inl ⟨rfl, rfl⟩) _) ?_
    have g1 : decide ((0 : Int) < 0) = false := rfl
    rw [hso]
    simp (maxSteps := 2000000) (disch := first | omega | (simp only [List.length_append, List.length_cons, List.length_nil, List.length_map] <;> omega)) only [Bool.not_true, List.set_cons_zero, List.set_cons_succ, exc_bool, exc_int, exc_nilS, swp_seq, swp_reg, swp_skip, swp_block, swp_cond, seqK_n, condK_f, evK_some, appK_eq, appC_eq, grd_t, srun_nil, srun_cons, stepK_grd, sk_mv, sk_take, sk_pick, sk_bin, sk_un, sk_lenL, get_mk, raw_slot, raw_lit, put_some, wb_nil, ev_mv, ev_take, ev_pick, ev_not, ev_lenN, bin_gtr, ro_bool, got_int, got_bool, got_nilS, List.map_cons, List.map_nil, List.getD_cons_zero, List.getD_cons_succ, List.set_cons_zero, List.set_cons_succ, Bool.false_eq_true, ↓reduceIte, decide_false, Bool.not_true, gt_iff_lt, Int.reduceLT]
    have hc0 : cntU t d = 0 := by unfold cntU; rw [hn]; rfl
    refine swp_lp (fun S => ∃ (i : Nat) (c : Int), i ≤ t.length ∧ c = ((cntU (t.take i) d : Nat) : Int) ∧ S = ⟨[v, .str d, .undef, .undef, .bool false, .bool true, .undef, .nilS, .int .i64 c, .int .i64 i] ++ List.replicate 82 .undef, st⟩)
      (fun S => match S.get 9 with | .int _ k => ((t.length : Int) - k).toNat | _ => 0)
      ⟨[v, .str d, .undef, .undef, .bool false, .bool true, .undef, .nilS, .int .i64 0, .int .i64 0] ++ List.replicate 82 .undef, st⟩ ?_ ⟨0, 0, Nat.zero_le _, rfl, rfl⟩ ?_
    · refine Forget.of ?_
      repeat first | exact fg_e | refine fg_d ?_ | refine fg_k rfl ?_
    rintro S ⟨i, c, hi, hc, rfl⟩
    by_cases him : i = t.length
    · have hd : decide ((i : Int) < (t.length : Int)) = false := by rw [decide_eq_false_iff_not]; omega
      have hz : (c == 0) = true := by rw [beq_iff_eq, hc, him, List.take_length, hc0]; try rfl
      simp (maxSteps := 2000000) (disch := first | omega | (simp only [List.length_append, List.length_cons, List.length_nil, List.length_map] <;> omega)) only [hd, hz, q1, q5, List.set_cons_zero, List.set_cons_succ, lpK_e, flg_bool, exc_int, exc_nilS, swp_seq, swp_reg, swp_ret, swp_exit, swp_cond, seqK_n, seqK_e, blkK_e, condK_f, evK_some, appK_eq, grd_t, srun_nil, srun_cons, stepK_grd, fin_ret, sk_mv, sk_take, sk_give, sk_pick, sk_bin, sk_lenL, get_mk, raw_slot, raw_lit, put_some, wb_nil, ev_mv, ev_take, ev_give, ev_pick, ev_lenN, bin_eql, bin_lss, ro_int, ro_bool, got_int, got_nilS, List.map_cons, List.map_nil, List.getD_cons_zero, List.getD_cons_succ, List.set_cons_zero, List.set_cons_succ, List.replicate_succ, List.replicate_zero, List.cons_append, List.nil_append, and_true, Bool.false_eq_true, ↓reduceIte]
      first | exact ⟨_, .same, rfl⟩ | exact ⟨_, .same⟩
    have hd : decide ((i : Int) < (t.length : Int)) = true := by rw [decide_eq_true_eq]; omega
    have hil : i < t.length := by omega
    have fin := fin_ltT hil
    have b1 := RowAt.idxB hv hil .i64
    have b2 := fun s => RowAt.fld hv (by omega) (i * 2) 0 s
    have b3 := RowF.f0 hv hil []
    simp only [List.append_nil, Nat.add_zero] at b2 b3
    have hsp := (hs.2 _ (List.getElem_mem hil)).1
    have hcs := cnt_succ hil d
    have hcl := cnt_le t i d
    have hfile := in_file hR hil
    have eN : inV [] = .nilS := rfl
    have z9 : ((0 : Int) == 0) = true := rfl
    have w9 : IntKind.i64.wrap (c + 1) = c + 1 := by rw [wrap_i64 (by omega) (by omega)]
    simp (maxSteps := 2000000) (disch := first | omega | (simp only [List.length_append, List.length_cons, List.length_nil, List.length_map] <;> omega)) only [hd, b1, b2, b3, q1, q5, List.set_cons_zero, List.set_cons_succ, exc_str, sk_idxB, swp_seq, swp_reg, swp_skip, swp_block, swp_cond, seqK_n, condK_t, evK_some, appK_eq, srun_nil, srun_cons, stepK_call, sk_mv, sk_bin, sk_fld, sk_load, sk_lenL, get_mk, raw_slot, put_some, wb_nil, ev_mv, bin_lss, ro_int, ro_str, got_str, pubs, pubsFrom, List.map_cons, List.map_nil, List.getD_cons_zero, List.getD_cons_succ, List.set_cons_zero, List.set_cons_succ, List.replicate_succ, List.replicate_zero, List.cons_append, List.nil_append, Bool.false_eq_true, ↓reduceIte]
    refine callK_intro (u30c hsp hd' _) ?_
    cases hu : underB t[i].1 d with
    | true =>
      rw [hu, if_pos rfl] at hcs
      simp (maxSteps := 2000000) (disch := first | omega | (simp only [List.length_append, List.length_cons, List.length_nil, List.length_map] <;> omega)) only [w9, b1, b2, b3, q1, List.set_cons_zero, List.set_cons_succ, flg_int, exc_str, sk_idxB, swp_seq, swp_reg, swp_cond, seqK_n, condK_t, evK_some, appK_eq, appC_eq, srun_nil, srun_cons, stepK_call, sk_mv, sk_give, sk_bin, sk_fld, sk_load, get_mk, raw_slot, raw_lit, put_some, wb_nil, ev_mv, ev_give, bin_add, ro_int, got_str, pubs, pubsFrom, List.map_cons, List.map_nil, List.getD_cons_zero, List.getD_cons_succ, List.set_cons_zero, List.set_cons_succ, Bool.false_eq_true, ↓reduceIte]
      refine callK_intro (u31 hsp _) ?_
      cases hpe : (parentB t[i].1 == []) with
      | true =>
        simp (maxSteps := 2000000) (disch := first | omega | (simp only [List.length_append, List.length_cons, List.length_nil, List.length_map] <;> omega)) only [hpe, Bool.not_true, b1, b2, b3, q2, q3, List.set_cons_zero, List.set_cons_succ, flg_str, exc_int, exc_str, sk_idxB, swp_seq, swp_reg, seqK_n, evK_some, appK_eq, appC_eq, grd_t, srun_nil, srun_cons, stepK_call, stepK_grd, sk_mv, sk_take, sk_give, sk_pick, sk_bin, sk_fld, sk_load, get_mk, raw_slot, raw_lit, put_some, wb_nil, ev_mv, ev_take, ev_give, ev_pick, bin_neqS, ro_bool, ro_str, got_int, got_str, pubs, pubsFrom, List.map_cons, List.map_nil, List.getD_cons_zero, List.getD_cons_succ, List.set_cons_zero, List.set_cons_succ, Bool.false_eq_true, ↓reduceIte, Bool.not_true]
        refine callK_intro (up (n27 hv hs hsp ho)) ?_
        rw [eR, hfile, eN]
        simp (maxSteps := 2000000) (disch := first | omega | (simp only [List.length_append, List.length_cons, List.length_nil, List.length_map] <;> omega)) only [List.set_cons_zero, List.set_cons_succ, lpK_n, flg_int, swp_reg, swp_skip, swp_cond, seqK_n, blkK_n, condK_f, evK_some, appK_eq, appC_eq, grd_t, srun_nil, srun_cons, stepK_grd, sk_mv, sk_give, sk_pick, sk_bin, sk_lenL, get_mk, raw_slot, raw_lit, put_some, wb_nil, ev_mv, ev_give, ev_pick, ev_lenN, bin_add, bin_neq, ro_int, ro_bool, List.map_cons, List.map_nil, List.getD_cons_zero, List.getD_cons_succ, List.set_cons_zero, List.set_cons_succ, Bool.false_eq_true, ↓reduceIte, bne_self_eq_false, wrap_i64]
        refine ⟨_, ?_, ⟨i + 1, c + 1, by omega, by omega, rfl⟩, by exact fin⟩
        refine Forget.of ?_
        repeat first | exact fg_e | refine fg_d ?_ | refine fg_k rfl ?_
      | false =>
        have hne : parentB t[i].1 ≠ [] := by intro h; rw [h] at hpe; cases hpe
        simp (maxSteps := 2000000) (disch := first | omega | (simp only [List.length_append, List.length_cons, List.length_nil, List.length_map] <;> omega)) only [hpe, Bool.not_false, q2, q3, List.set_cons_zero, List.set_cons_succ, flg_str, exc_str, swp_seq, swp_reg, seqK_n, evK_some, appK_eq, appC_eq, grd_t, srun_nil, srun_cons, stepK_call, stepK_grd, sk_mv, sk_take, sk_give, sk_bin, get_mk, raw_slot, raw_lit, put_some, wb_nil, ev_mv, ev_take, ev_give, bin_neqS, ro_bool, ro_str, got_str, pubs, pubsFrom, List.map_cons, List.map_nil, List.getD_cons_zero, List.getD_cons_succ, List.set_cons_zero, List.set_cons_succ, Bool.false_eq_true, ↓reduceIte, Bool.not_false]
        refine callK_intro (up (n27 hv hs (parent_smT hsp) ho)) ?_
        have hip := in_parent hR hil hne
        rw [eR]
        rcases inV_or (inT t (parentB t[i].1)) with ⟨hn2, _⟩ | ⟨_, e2⟩
        · exact absurd hn2 hip
        have zp : ((((inT t (parentB t[i].1)).length : Nat) : Int) == 0) = false := by rw [beq_eq_false_iff_ne]; have := List.length_pos_iff.2 hip; omega
        rw [e2]
        simp (maxSteps := 2000000) (disch := first | omega | (simp only [List.length_append, List.length_cons, List.length_nil, List.length_map] <;> omega)) only [zp, b1, b2, b3, q2, q3, List.set_cons_zero, List.set_cons_succ, exc_int, exc_str, sk_idxB, evK_some, appK_eq, appC_eq, grd_t, srun_cons, stepK_call, stepK_grd, sk_mv, sk_take, sk_pick, sk_bin, sk_fld, sk_load, sk_lenL, get_mk, raw_slot, raw_lit, put_some, wb_nil, ev_mv, ev_take, ev_pick, ev_lenL, bin_eql, ro_bool, got_int, got_str, pubs, pubsFrom, List.map_cons, List.map_nil, List.getD_cons_zero, List.getD_cons_succ, List.set_cons_zero, List.set_cons_succ, Bool.false_eq_true, ↓reduceIte]
        refine callK_intro (up (n27 hv hs hsp ho)) ?_
        rw [eR, hfile, eN]
        simp (maxSteps := 2000000) (disch := first | omega | (simp only [List.length_append, List.length_cons, List.length_nil, List.length_map] <;> omega)) only [List.set_cons_zero, List.set_cons_succ, lpK_n, flg_int, swp_reg, swp_skip, swp_cond, seqK_n, blkK_n, condK_f, evK_some, appK_eq, appC_eq, grd_t, srun_nil, srun_cons, stepK_grd, sk_mv, sk_give, sk_pick, sk_bin, sk_lenL, get_mk, raw_slot, raw_lit, put_some, wb_nil, ev_mv, ev_give, ev_pick, ev_lenN, bin_add, bin_neq, ro_int, ro_bool, List.map_cons, List.map_nil, List.getD_cons_zero, List.getD_cons_succ, List.set_cons_zero, List.set_cons_succ, Bool.false_eq_true, ↓reduceIte, bne_self_eq_false, wrap_i64]
        refine ⟨_, ?_, ⟨i + 1, c + 1, by omega, by omega, rfl⟩, by exact fin⟩
        refine Forget.of ?_
        repeat first | exact fg_e | refine fg_d ?_ | refine fg_k rfl ?_
    | false =>
      rw [hu] at hcs
      simp only [Bool.false_eq_true, if_false, Nat.add_zero] at hcs
      simp (maxSteps := 2000000) (disch := first | omega | (simp only [List.length_append, List.length_cons, List.length_nil, List.length_map] <;> omega)) only [b1, b2, b3, q1, List.set_cons_zero, List.set_cons_succ, exc_str, sk_idxB, swp_seq, swp_reg, swp_skip, swp_cond, seqK_n, condK_f, evK_some, appK_eq, appC_eq, srun_nil, srun_cons, stepK_call, sk_mv, sk_fld, sk_load, get_mk, raw_slot, put_some, wb_nil, ev_mv, ro_int, got_str, pubs, pubsFrom, List.map_cons, List.map_nil, List.getD_cons_zero, List.getD_cons_succ, List.set_cons_zero, List.set_cons_succ, Bool.false_eq_true, ↓reduceIte]
      refine callK_intro (u31 hsp _) ?_
      cases hpe : (parentB t[i].1 == []) with
      | true =>
        simp (maxSteps := 2000000) (disch := first | omega | (simp only [List.length_append, List.length_cons, List.length_nil, List.length_map] <;> omega)) only [hpe, Bool.not_true, b1, b2, b3, q2, q3, List.set_cons_zero, List.set_cons_succ, flg_str, exc_int, exc_str, sk_idxB, swp_seq, swp_reg, seqK_n, evK_some, appK_eq, appC_eq, grd_t, srun_nil, srun_cons, stepK_call, stepK_grd, sk_mv, sk_take, sk_give, sk_pick, sk_bin, sk_fld, sk_load, get_mk, raw_slot, raw_lit, put_some, wb_nil, ev_mv, ev_take, ev_give, ev_pick, bin_neqS, ro_bool, ro_str, got_int, got_str, pubs, pubsFrom, List.map_cons, List.map_nil, List.getD_cons_zero, List.getD_cons_succ, List.set_cons_zero, List.set_cons_succ, Bool.false_eq_true, ↓reduceIte, Bool.not_true]
        refine callK_intro (up (n27 hv hs hsp ho)) ?_
        rw [eR, hfile, eN]
        simp (maxSteps := 2000000) (disch := first | omega | (simp only [List.length_append, List.length_cons, List.length_nil, List.length_map] <;> omega)) only [List.set_cons_zero, List.set_cons_succ, lpK_n, flg_int, swp_reg, swp_skip, swp_cond, seqK_n, blkK_n, condK_f, evK_some, appK_eq, appC_eq, grd_t, srun_nil, srun_cons, stepK_grd, sk_mv, sk_give, sk_pick, sk_bin, sk_lenL, get_mk, raw_slot, raw_lit, put_some, wb_nil, ev_mv, ev_give, ev_pick, ev_lenN, bin_add, bin_neq, ro_int, ro_bool, List.map_cons, List.map_nil, List.getD_cons_zero, List.getD_cons_succ, List.set_cons_zero, List.set_cons_succ, Bool.false_eq_true, ↓reduceIte, bne_self_eq_false, wrap_i64]
        refine ⟨_, ?_, ⟨i + 1, c, by omega, by omega, rfl⟩, by exact fin⟩
        refine Forget.of ?_
        repeat first | exact fg_e | refine fg_d ?_ | refine fg_k rfl ?_
      | false =>
        have hne : parentB t[i].1 ≠ [] := by intro h; rw [h] at hpe; cases hpe
        simp (maxSteps := 2000000) (disch := first | omega | (simp only [List.length_append, List.length_cons, List.length_nil, List.length_map] <;> omega)) only [hpe, Bool.not_false, q2, q3, List.set_cons_zero, List.set_cons_succ, flg_str, exc_str, swp_seq, swp_reg, seqK_n, evK_some, appK_eq, appC_eq, grd_t, srun_nil, srun_cons, stepK_call, stepK_grd, sk_mv, sk_take, sk_give, sk_bin, get_mk, raw_slot, raw_lit, put_some, wb_nil, ev_mv, ev_take, ev_give, bin_neqS, ro_bool, ro_str, got_str, pubs, pubsFrom, List.map_cons, List.map_nil, List.getD_cons_zero, List.getD_cons_succ, List.set_cons_zero, List.set_cons_succ, Bool.false_eq_true, ↓reduceIte, Bool.not_false]
        refine callK_intro (up (n27 hv hs (parent_smT hsp) ho)) ?_
        have hip := in_parent hR hil hne
        rw [eR]
        rcases inV_or (inT t (parentB t[i].1)) with ⟨hn2, _⟩ | ⟨_, e2⟩
        · exact absurd hn2 hip
        have zp : ((((inT t (parentB t[i].1)).length : Nat) : Int) == 0) = false := by rw [beq_eq_false_iff_ne]; have := List.length_pos_iff.2 hip; omega
        rw [e2]
        simp (maxSteps := 2000000) (disch := first | omega | (simp only [List.length_append, List.length_cons, List.length_nil, List.length_map] <;> omega)) only [zp, b1, b2, b3, q2, q3, List.set_cons_zero, List.set_cons_succ, exc_int, exc_str, sk_idxB, evK_some, appK_eq, appC_eq, grd_t, srun_cons, stepK_call, stepK_grd, sk_mv, sk_take, sk_pick, sk_bin, sk_fld, sk_load, sk_lenL, get_mk, raw_slot, raw_lit, put_some, wb_nil, ev_mv, ev_take, ev_pick, ev_lenL, bin_eql, ro_bool, got_int, got_str, pubs, pubsFrom, List.map_cons, List.map_nil, List.getD_cons_zero, List.getD_cons_succ, List.set_cons_zero, List.set_cons_succ, Bool.false_eq_true, ↓reduceIte]
        refine callK_intro (up (n27 hv hs hsp ho)) ?_
        rw [eR, hfile, eN]
        simp (maxSteps := 2000000) (disch := first | omega | (simp only [List.length_append, List.length_cons, List.length_nil, List.length_map] <;> omega)) only [List.set_cons_zero, List.set_cons_succ, lpK_n, flg_int, swp_reg, swp_skip, swp_cond, seqK_n, blkK_n, condK_f, evK_some, appK_eq, appC_eq, grd_t, srun_nil, srun_cons, stepK_grd, sk_mv, sk_give, sk_pick, sk_bin, sk_lenL, get_mk, raw_slot, raw_lit, put_some, wb_nil, ev_mv, ev_give, ev_pick, ev_lenN, bin_add, bin_neq, ro_int, ro_bool, List.map_cons, List.map_nil, List.getD_cons_zero, List.getD_cons_succ, List.set_cons_zero, List.set_cons_succ, Bool.false_eq_true, ↓reduceIte, bne_self_eq_false, wrap_i64]
        refine ⟨_, ?_, ⟨i + 1, c, by omega, by omega, rfl⟩, by exact fin⟩
        refine Forget.of ?_
        repeat first | exact fg_e | refine fg_d ?_ | refine fg_k rfl ?_
  · rw [e]
    simp (maxSteps := 2000000) (disch := first | omega | (simp only [List.length_append, List.length_cons, List.length_nil, List.length_map] <;> omega)) only [List.set_cons_zero, List.set_cons_succ, pub_excl2, flg_excl, exc_excl, swp_seq, swp_reg, seqK_n, evK_some, appK_eq, appC_eq, srun_nil, srun_cons, stepK_call, sk_mv, sk_give, get_mk, raw_slot, put_some, wb_nil, wb_cons, ev_mv, ev_give, ro_excl, got_excl, pubs, pubsFrom, List.map_cons, List.map_nil, List.getD_cons_zero, List.getD_cons_succ, List.set_cons_zero, List.set_cons_succ, List.getElem?_cons_zero, ↓reduceIte]
    refine callK_intro (u29 hsa (.inr rfl) _) ?_
    have g1 : decide ((0 : Int) < ((inT t d).length : Int)) = true := by rw [decide_eq_true_eq]; have := List.length_pos_iff.2 hn; omega
    have g2 : decide ((0 : Int) ≤ -1) = false := rfl
    rw [hso]
    simp (maxSteps := 2000000) (disch := first | omega | (simp only [List.length_append, List.length_cons, List.length_nil, List.length_map] <;> omega)) only [g1, Bool.not_true, q2, q3, List.set_cons_zero, List.set_cons_succ, exc_bool, exc_str, exc_own, evK_some, appK_eq, appC_eq, grd_t, srun_cons, stepK_call, stepK_grd, sk_mv, sk_take, sk_bin, sk_un, sk_lenL, get_mk, raw_slot, raw_lit, put_some, wb_nil, wb_cons, ev_mv, ev_take, ev_not, ev_lenL, bin_gtr, ro_bool, got_own, got_bool, got_str, pubs, pubsFrom, List.map_cons, List.map_nil, List.getD_cons_zero, List.getD_cons_succ, List.set_cons_zero, List.set_cons_succ, List.getElem?_cons_zero, Bool.false_eq_true, ↓reduceIte, Bool.not_true, gt_iff_lt]
    refine callK_intro (up (n21 hv hs ho)) ?_
    rw [in_not hR hn]
    simp (maxSteps := 2000000) (disch := first | omega | (simp only [List.length_append, List.length_cons, List.length_nil, List.length_map] <;> omega)) only [ge_iff_le, List.set_cons_zero, List.set_cons_succ, exc_int, swp_seq, swp_reg, swp_skip, swp_block, swp_cond, seqK_n, condK_f, evK_some, appK_eq, appC_eq, grd_t, srun_nil, srun_cons, stepK_grd, sk_take, sk_pick, sk_bin, get_mk, raw_slot, raw_lit, put_some, wb_nil, ev_take, ev_pick, bin_geq, ro_bool, got_int, List.map_cons, List.map_nil, List.getD_cons_zero, List.getD_cons_succ, List.set_cons_zero, List.set_cons_succ, Bool.false_eq_true, ↓reduceIte, decide_false, ge_iff_le, Int.reduceLE, Int.reduceNeg]
    have hc0 : cntU t d = (inT t d).length := rfl
    refine swp_lp (fun S => ∃ (i : Nat) (c : Int), i ≤ t.length ∧ c = ((cntU (t.take i) d : Nat) : Int) ∧ S = ⟨[v, .str d, .undef, .undef, .bool false, .bool true, .undef, (.sl (ssv (inT t d)) (inT t d).length (.own 1)), .int .i64 c, .int .i64 i] ++ List.replicate 82 .undef, st⟩)
      (fun S => match S.get 9 with | .int _ k => ((t.length : Int) - k).toNat | _ => 0)
      ⟨[v, .str d, .undef, .undef, .bool false, .bool true, .undef, (.sl (ssv (inT t d)) (inT t d).length (.own 1)), .int .i64 0, .int .i64 0] ++ List.replicate 82 .undef, st⟩ ?_ ⟨0, 0, Nat.zero_le _, rfl, rfl⟩ ?_
    · refine Forget.of ?_
      repeat first | exact fg_e | refine fg_d ?_ | refine fg_k rfl ?_
    rintro S ⟨i, c, hi, hc, rfl⟩
    by_cases him : i = t.length
    · have hd : decide ((i : Int) < (t.length : Int)) = false := by rw [decide_eq_false_iff_not]; omega
      have hz : (c == ((inT t d).length : Int)) = true := by rw [beq_iff_eq, hc, him, List.take_length, hc0]; try rfl
      simp (maxSteps := 2000000) (disch := first | omega | (simp only [List.length_append, List.length_cons, List.length_nil, List.length_map] <;> omega)) only [hd, hz, q1, q5, List.set_cons_zero, List.set_cons_succ, lpK_e, flg_bool, exc_int, exc_own, swp_seq, swp_reg, swp_ret, swp_exit, swp_cond, seqK_n, seqK_e, blkK_e, condK_f, evK_some, appK_eq, grd_t, srun_nil, srun_cons, stepK_grd, fin_ret, sk_mv, sk_take, sk_give, sk_pick, sk_bin, sk_lenL, get_mk, raw_slot, raw_lit, put_some, wb_nil, ev_mv, ev_take, ev_give, ev_pick, ev_lenL, bin_eql, bin_lss, ro_int, ro_bool, got_own, got_int, List.map_cons, List.map_nil, List.getD_cons_zero, List.getD_cons_succ, List.set_cons_zero, List.set_cons_succ, List.replicate_succ, List.replicate_zero, List.cons_append, List.nil_append, and_true, Bool.false_eq_true, ↓reduceIte]
      first | exact ⟨_, .same, rfl⟩ | exact ⟨_, .same⟩
    have hd : decide ((i : Int) < (t.length : Int)) = true := by rw [decide_eq_true_eq]; omega
    have hil : i < t.length := by omega
    have fin := fin_ltT hil
    have b1 := RowAt.idxB hv hil .i64
    have b2 := fun s => RowAt.fld hv (by omega) (i * 2) 0 s
    have b3 := RowF.f0 hv hil []
    simp only [List.append_nil, Nat.add_zero] at b2 b3
    have hsp := (hs.2 _ (List.getElem_mem hil)).1
    have hcs := cnt_succ hil d
    have hcl := cnt_le t i d
    have hfile := in_file hR hil
    have eN : inV [] = .nilS := rfl
    have z9 : ((0 : Int) == 0) = true := rfl
    have w9 : IntKind.i64.wrap (c + 1) = c + 1 := by rw [wrap_i64 (by omega) (by omega)]
    simp (maxSteps := 2000000) (disch := first | omega | (simp only [List.length_append, List.length_cons, List.length_nil, List.length_map] <;> omega)) only [hd, b1, b2, b3, q1, q5, List.set_cons_zero, List.set_cons_succ, exc_str, sk_idxB, swp_seq, swp_reg, swp_skip, swp_block, swp_cond, seqK_n, condK_t, evK_some, appK_eq, srun_nil, srun_cons, stepK_call, sk_mv, sk_bin, sk_fld, sk_load, sk_lenL, get_mk, raw_slot, put_some, wb_nil, ev_mv, bin_lss, ro_int, ro_str, got_str, pubs, pubsFrom, List.map_cons, List.map_nil, List.getD_cons_zero, List.getD_cons_succ, List.set_cons_zero, List.set_cons_succ, List.replicate_succ, List.replicate_zero, List.cons_append, List.nil_append, Bool.false_eq_true, ↓reduceIte]
    refine callK_intro (u30c hsp hd' _) ?_
    cases hu : underB t[i].1 d with
    | true =>
      rw [hu, if_pos rfl] at hcs
      simp (maxSteps := 2000000) (disch := first | omega | (simp only [List.length_append, List.length_cons, List.length_nil, List.length_map] <;> omega)) only [w9, b1, b2, b3, q1, List.set_cons_zero, List.set_cons_succ, flg_int, exc_str, sk_idxB, swp_seq, swp_reg, swp_cond, seqK_n, condK_t, evK_some, appK_eq, appC_eq, srun_nil, srun_cons, stepK_call, sk_mv, sk_give, sk_bin, sk_fld, sk_load, get_mk, raw_slot, raw_lit, put_some, wb_nil, ev_mv, ev_give, bin_add, ro_int, got_str, pubs, pubsFrom, List.map_cons, List.map_nil, List.getD_cons_zero, List.getD_cons_succ, List.set_cons_zero, List.set_cons_succ, Bool.false_eq_true, ↓reduceIte]
      refine callK_intro (u31 hsp _) ?_
      cases hpe : (parentB t[i].1 == []) with
      | true =>
        simp (maxSteps := 2000000) (disch := first | omega | (simp only [List.length_append, List.length_cons, List.length_nil, List.length_map] <;> omega)) only [hpe, Bool.not_true, b1, b2, b3, q2, q3, List.set_cons_zero, List.set_cons_succ, flg_str, exc_int, exc_str, sk_idxB, swp_seq, swp_reg, seqK_n, evK_some, appK_eq, appC_eq, grd_t, srun_nil, srun_cons, stepK_call, stepK_grd, sk_mv, sk_take, sk_give, sk_pick, sk_bin, sk_fld, sk_load, get_mk, raw_slot, raw_lit, put_some, wb_nil, ev_mv, ev_take, ev_give, ev_pick, bin_neqS, ro_bool, ro_str, got_int, got_str, pubs, pubsFrom, List.map_cons, List.map_nil, List.getD_cons_zero, List.getD_cons_succ, List.set_cons_zero, List.set_cons_succ, Bool.false_eq_true, ↓reduceIte, Bool.not_true]
        refine callK_intro (up (n27 hv hs hsp ho)) ?_
        rw [eR, hfile, eN]
        simp (maxSteps := 2000000) (disch := first | omega | (simp only [List.length_append, List.length_cons, List.length_nil, List.length_map] <;> omega)) only [List.set_cons_zero, List.set_cons_succ, lpK_n, flg_int, swp_reg, swp_skip, swp_cond, seqK_n, blkK_n, condK_f, evK_some, appK_eq, appC_eq, grd_t, srun_nil, srun_cons, stepK_grd, sk_mv, sk_give, sk_pick, sk_bin, sk_lenL, get_mk, raw_slot, raw_lit, put_some, wb_nil, ev_mv, ev_give, ev_pick, ev_lenN, bin_add, bin_neq, ro_int, ro_bool, List.map_cons, List.map_nil, List.getD_cons_zero, List.getD_cons_succ, List.set_cons_zero, List.set_cons_succ, Bool.false_eq_true, ↓reduceIte, bne_self_eq_false, wrap_i64]
        refine ⟨_, ?_, ⟨i + 1, c + 1, by omega, by omega, rfl⟩, by exact fin⟩
        refine Forget.of ?_
        repeat first | exact fg_e | refine fg_d ?_ | refine fg_k rfl ?_
      | false =>
        have hne : parentB t[i].1 ≠ [] := by intro h; rw [h] at hpe; cases hpe
        simp (maxSteps := 2000000) (disch := first | omega | (simp only [List.length_append, List.length_cons, List.length_nil, List.length_map] <;> omega)) only [hpe, Bool.not_false, q2, q3, List.set_cons_zero, List.set_cons_succ, flg_str, exc_str, swp_seq, swp_reg, seqK_n, evK_some, appK_eq, appC_eq, grd_t, srun_nil, srun_cons, stepK_call, stepK_grd, sk_mv, sk_take, sk_give, sk_bin, get_mk, raw_slot, raw_lit, put_some, wb_nil, ev_mv, ev_take, ev_give, bin_neqS, ro_bool, ro_str, got_str, pubs, pubsFrom, List.map_cons, List.map_nil, List.getD_cons_zero, List.getD_cons_succ, List.set_cons_zero, List.set_cons_succ, Bool.false_eq_true, ↓reduceIte, Bool.not_false]
        refine callK_intro (up (n27 hv hs (parent_smT hsp) ho)) ?_
        have hip := in_parent hR hil hne
        rw [eR]
        rcases inV_or (inT t (parentB t[i].1)) with ⟨hn2, _⟩ | ⟨_, e2⟩
        · exact absurd hn2 hip
        have zp : ((((inT t (parentB t[i].1)).length : Nat) : Int) == 0) = false := by rw [beq_eq_false_iff_ne]; have := List.length_pos_iff.2 hip; omega
        rw [e2]
        simp (maxSteps := 2000000) (disch := first | omega | (simp only [List.length_append, List.length_cons, List.length_nil, List.length_map] <;> omega)) only [zp, b1, b2, b3, q2, q3, List.set_cons_zero, List.set_cons_succ, exc_int, exc_str, sk_idxB, evK_some, appK_eq, appC_eq, grd_t, srun_cons, stepK_call, stepK_grd, sk_mv, sk_take, sk_pick, sk_bin, sk_fld, sk_load, sk_lenL, get_mk, raw_slot, raw_lit, put_some, wb_nil, ev_mv, ev_take, ev_pick, ev_lenL, bin_eql, ro_bool, got_int, got_str, pubs, pubsFrom, List.map_cons, List.map_nil, List.getD_cons_zero, List.getD_cons_succ, List.set_cons_zero, List.set_cons_succ, Bool.false_eq_true, ↓reduceIte]
        refine callK_intro (up (n27 hv hs hsp ho)) ?_
        rw [eR, hfile, eN]
        simp (maxSteps := 2000000) (disch := first | omega | (simp only [List.length_append, List.length_cons, List.length_nil, List.length_map] <;> omega)) only [List.set_cons_zero, List.set_cons_succ, lpK_n, flg_int, swp_reg, swp_skip, swp_cond, seqK_n, blkK_n, condK_f, evK_some, appK_eq, appC_eq, grd_t, srun_nil, srun_cons, stepK_grd, sk_mv, sk_give, sk_pick, sk_bin, sk_lenL, get_mk, raw_slot, raw_lit, put_some, wb_nil, ev_mv, ev_give, ev_pick, ev_lenN, bin_add, bin_neq, ro_int, ro_bool, List.map_cons, List.map_nil, List.getD_cons_zero, List.getD_cons_succ, List.set_cons_zero, List.set_cons_succ, Bool.false_eq_true, ↓reduceIte, bne_self_eq_false, wrap_i64]
        refine ⟨_, ?_, ⟨i + 1, c + 1, by omega, by omega, rfl⟩, by exact fin⟩
        refine Forget.of ?_
        repeat first | exact fg_e | refine fg_d ?_ | refine fg_k rfl ?_
    | false =>
      rw [hu] at hcs
      simp only [Bool.false_eq_true, if_false, Nat.add_zero] at hcs
      simp (maxSteps := 2000000) (disch := first | omega | (simp only [List.length_append, List.length_cons, List.length_nil, List.length_map] <;> omega)) only [b1, b2, b3, q1, List.set_cons_zero, List.set_cons_succ, exc_str, sk_idxB, swp_seq, swp_reg, swp_skip, swp_cond, seqK_n, condK_f, evK_some, appK_eq, appC_eq, srun_nil, srun_cons, stepK_call, sk_mv, sk_fld, sk_load, get_mk, raw_slot, put_some, wb_nil, ev_mv, ro_int, got_str, pubs, pubsFrom, List.map_cons, List.map_nil, List.getD_cons_zero, List.getD_cons_succ, List.set_cons_zero, List.set_cons_succ, Bool.false_eq_true, ↓reduceIte]
      refine callK_intro (u31 hsp _) ?_
      cases hpe : (parentB t[i].1 == []) with
      | true =>
        simp (maxSteps := 2000000) (disch := first | omega | (simp only [List.length_append, List.length_cons, List.length_nil, List.length_map] <;> omega)) only [hpe, Bool.not_true, b1, b2, b3, q2, q3, List.set_cons_zero, List.set_cons_succ, flg_str, exc_int, exc_str, sk_idxB, swp_seq, swp_reg, seqK_n, evK_some, appK_eq, appC_eq, grd_t, srun_nil, srun_cons, stepK_call, stepK_grd, sk_mv, sk_take, sk_give, sk_pick, sk_bin, sk_fld, sk_load, get_mk, raw_slot, raw_lit, put_some, wb_nil, ev_mv, ev_take, ev_give, ev_pick, bin_neqS, ro_bool, ro_str, got_int, got_str, pubs, pubsFrom, List.map_cons, List.map_nil, List.getD_cons_zero, List.getD_cons_succ, List.set_cons_zero, List.set_cons_succ, Bool.false_eq_true, ↓reduceIte, Bool.not_true]
        refine callK_intro (up (n27 hv hs hsp ho)) ?_
        rw [eR, hfile, eN]
        simp (maxSteps := 2000000) (disch := first | omega | (simp only [List.length_append, List.length_cons, List.length_nil, List.length_map] <;> omega)) only [List.set_cons_zero, List.set_cons_succ, lpK_n, flg_int, swp_reg, swp_skip, swp_cond, seqK_n, blkK_n, condK_f, evK_some, appK_eq, appC_eq, grd_t, srun_nil, srun_cons, stepK_grd, sk_mv, sk_give, sk_pick, sk_bin, sk_lenL, get_mk, raw_slot, raw_lit, put_some, wb_nil, ev_mv, ev_give, ev_pick, ev_lenN, bin_add, bin_neq, ro_int, ro_bool, List.map_cons, List.map_nil, List.getD_cons_zero, List.getD_cons_succ, List.set_cons_zero, List.set_cons_succ, Bool.false_eq_true, ↓reduceIte, bne_self_eq_false, wrap_i64]
        refine ⟨_, ?_, ⟨i + 1, c, by omega, by omega, rfl⟩, by exact fin⟩
        refine Forget.of ?_
        repeat first | exact fg_e | refine fg_d ?_ | refine fg_k rfl ?_
      | false =>
        have hne : parentB t[i].1 ≠ [] := by intro h; rw [h] at hpe; cases hpe
        simp (maxSteps := 2000000) (disch := first | omega | (simp only [List.length_append, List.length_cons, List.length_nil, List.length_map] <;> omega)) only [hpe, Bool.not_false, q2, q3, List.set_cons_zero, List.set_cons_succ, flg_str, exc_str, swp_seq, swp_reg, seqK_n, evK_some, appK_eq, appC_eq, grd_t, srun_nil, srun_cons, stepK_call, stepK_grd, sk_mv, sk_take, sk_give, sk_bin, get_mk, raw_slot, raw_lit, put_some, wb_nil, ev_mv, ev_take, ev_give, bin_neqS, ro_bool, ro_str, got_str, pubs, pubsFrom, List.map_cons, List.map_nil, List.getD_cons_zero, List.getD_cons_succ, List.set_cons_zero, List.set_cons_succ, Bool.false_eq_true, ↓reduceIte, Bool.not_false]
        refine callK_intro (up (n27 hv hs (parent_smT hsp) ho)) ?_
        have hip := in_parent hR hil hne
        rw [eR]
        rcases inV_or (inT t (parentB t[i].1)) with ⟨hn2, _⟩ | ⟨_, e2⟩
        · exact absurd hn2 hip
        have zp : ((((inT t (parentB t[i].1)).length : Nat) : Int) == 0) = false := by rw [beq_eq_false_iff_ne]; have := List.length_pos_iff.2 hip; omega
        rw [e2]
        simp (maxSteps := 2000000) (disch := first | omega | (simp only [List.length_append, List.length_cons, List.length_nil, List.length_map] <;> omega)) only [zp, b1, b2, b3, q2, q3, List.set_cons_zero, List.set_cons_succ, exc_int, exc_str, sk_idxB, evK_some, appK_eq, appC_eq, grd_t, srun_cons, stepK_call, stepK_grd, sk_mv, sk_take, sk_pick, sk_bin, sk_fld, sk_load, sk_lenL, get_mk, raw_slot, raw_lit, put_some, wb_nil, ev_mv, ev_take, ev_pick, ev_lenL, bin_eql, ro_bool, got_int, got_str, pubs, pubsFrom, List.map_cons, List.map_nil, List.getD_cons_zero, List.getD_cons_succ, List.set_cons_zero, List.set_cons_succ, Bool.false_eq_true, ↓reduceIte]
        refine callK_intro (up (n27 hv hs hsp ho)) ?_
        rw [eR, hfile, eN]
        simp (maxSteps := 2000000) (disch := first | omega | (simp only [List.length_append, List.length_cons, List.length_nil, List.length_map] <;> omega)) only [List.set_cons_zero, List.set_cons_succ, lpK_n, flg_int, swp_reg, swp_skip, swp_cond, seqK_n, blkK_n, condK_f, evK_some, appK_eq, appC_eq, grd_t, srun_nil, srun_cons, stepK_grd, sk_mv, sk_give, sk_pick, sk_bin, sk_lenL, get_mk, raw_slot, raw_lit, put_some, wb_nil, ev_mv, ev_give, ev_pick, ev_lenN, bin_add, bin_neq, ro_int, ro_bool, List.map_cons, List.map_nil, List.getD_cons_zero, List.getD_cons_succ, List.set_cons_zero, List.set_cons_succ, Bool.false_eq_true, ↓reduceIte, bne_self_eq_false, wrap_i64]
        refine ⟨_, ?_, ⟨i + 1, c, by omega, by omega, rfl⟩, by exact fin⟩
        refine Forget.of ?_
        repeat first | exact fg_e | refine fg_d ?_ | refine fg_k rfl ?_
end Go.Sh.F
