/-
  Trees: the law TreeTells: its loops and its last word.
-/
import Derived.Test.YtihhaeklacphbaaDoorTl9
set_option linter.unusedSimpArgs false
set_option linter.unusedVariables false
namespace Go.Sh.F
open Go.PathLaw Go.TreeLaw Go.Proofs
abbrev spW : List UInt8 := [115, 112, 111, 105, 108, 116]
set_option maxHeartbeats 100000000 in
set_option maxRecDepth 100000 in
theorem l3tail (v uv av cv : SV) (t u : List F) (p d : List UInt8) (st st' : List Ob) (n m : Nat) (hv' : rdR fC v t) (hu' : rdR fC uv u) (hs : smT t) (hp : sm p) (ha : Sp st' av n) (hc : Sp st' cv m) (ho : okSt st') (s0 : S)
    (hS : Forget s0.st.length s0 ⟨[v, uv, .str p, .str d, .undef, .undef, .undef, .undef, .bool false, .bool true, .undef, .undef, .sl (t.flatMap fC) t.length (.own 2), av, .undef, .undef, .undef, cv, .undef, .undef, .undef, .undef, .undef, .undef, .undef, .bool true, .int .i64 0, .undef] ++ List.replicate 161 .undef, st'⟩) : swp O330 (.loop (lpb (sqf l3r))) (blkK 0 (seqK O330 (sqs l3r) (finK [.tmp 8] st (fun r _ => r = .bool true)))) s0 := by
  obtain ⟨q1, q2, q3, q4, q6, q7⟩ := RowAt.facts (rd_F hv' st)
  have q5 := RowAt.lenL (rd_F hv' st)
  obtain ⟨u1, u2, u3, u4, u6, u7⟩ := RowAt.facts (rd_F hu' st)
  refine swp_lp (fun S => ∃ (k : Nat) (s1 : List Ob), k ≤ n ∧ Sp s1 av n ∧ Sp s1 cv m ∧ okSt s1 ∧ S = ⟨[v, uv, .str p, .str d, .undef, .undef, .undef, .undef, .bool false, .bool true, .undef, .undef, .sl (t.flatMap fC) t.length (.own 2), av, .undef, .undef, .undef, cv, .undef, .undef, .undef, .undef, .undef, .undef, .undef, .bool true, .int .i64 k, .undef] ++ List.replicate 161 .undef, s1⟩)
    (fun S => match S.get 26 with | .int _ k => ((n : Int) - k).toNat | _ => 0) ⟨[v, uv, .str p, .str d, .undef, .undef, .undef, .undef, .bool false, .bool true, .undef, .undef, .sl (t.flatMap fC) t.length (.own 2), av, .undef, .undef, .undef, cv, .undef, .undef, .undef, .undef, .undef, .undef, .undef, .bool true, .int .i64 0, .undef] ++ List.replicate 161 .undef, st'⟩ hS ⟨0, st', Nat.zero_le _, ha, hc, ho, rfl⟩ ?_
  rintro S ⟨k, s1, hk, ha1, hc1, ho1, rfl⟩
  by_cases hkn : k < n
  · have fin := fin_ltT hkn
    have hnb := ha1.1
    obtain ⟨id, X, rfl, hx, hXl, _, hXo, hst⟩ := ha1.step (s := spW) hkn
    have hd : decide ((k : Int) < (n : Int)) = true := by rw [decide_eq_true_eq]; omega
    have x1 : ∀ s, ev s (.idxB 2) [.slo id 0 n, .int .i64 (k : Int)] = some (.ptr id (k * 2), [], s) := fun s => by rw [idxB_O (by omega) (by omega)]; simp
    simp (maxSteps := 2000000) (disch := first | omega | (simp only [List.length_append, List.length_cons, List.length_nil, List.length_map] <;> omega)) only [l3r, sf3, sqs, sqf, lpb, hd, x1, hst, Nat.add_zero, List.set_cons_zero, List.set_cons_succ, lpK_n, ro_slo, ev_lenO, flg_int, sk_idxB, swp_seq, swp_reg, swp_skip, swp_block, swp_cond, seqK_n, blkK_n, condK_t, evK_some, appK_eq, srun_nil, srun_cons, sk_mv, sk_give, sk_bin, sk_fld, sk_store, sk_lenL, get_mk, raw_slot, raw_lit, put_some, put_none, wb_nil, ev_mv, ev_give, ev_fld, bin_add, bin_lss, ro_int, List.map_cons, List.map_nil, List.getD_cons_zero, List.getD_cons_succ, List.set_cons_zero, List.set_cons_succ, List.replicate_succ, List.replicate_zero, List.cons_append, List.nil_append, Bool.false_eq_true, ↓reduceIte, wrap_i64]
    refine ⟨_, ?_, ⟨k + 1, setOb s1 id (X.set (k * 2) (.str spW)), by omega, ha1.set hx (by simp) hXo, hc1.set hx (by simp) hXo, okSt_set ho1 hXo, rfl⟩, by exact fin⟩
    refine Forget.of ?_
    repeat first | exact fg_e | refine fg_d ?_ | refine fg_k rfl ?_
  · obtain rfl : k = n := by omega
    have hlA : ev s1 .lenL [av] = some (.int .i64 k, [], s1) := by
      obtain ⟨_, ⟨rfl, rfl⟩ | ⟨id, X, rfl, _⟩⟩ := ha1
      · rfl
      · rfl
    have hfA : ro av = av ∧ got av = av ∧ exc av = false ∧ flg av = false := by
      obtain ⟨_, ⟨rfl, rfl⟩ | ⟨id, X, rfl, _⟩⟩ := ha1 <;> exact ⟨rfl, rfl, rfl, rfl⟩
    obtain ⟨a1, a2, a3, a4⟩ := hfA
    have hd : decide ((k : Int) < (k : Int)) = false := by rw [decide_eq_false_iff_not]; omega
    simp (maxSteps := 2000000) (disch := first | omega | (simp only [List.length_append, List.length_cons, List.length_nil, List.length_map] <;> omega)) only [l3r, sf3, sqs, sqf, lpb, hd, hlA, a1, List.set_cons_zero, List.set_cons_succ, lpK_e, exc_int, swp_seq, swp_reg, swp_exit, swp_block, swp_cond, seqK_n, seqK_e, blkK_e, condK_f, evK_some, appK_eq, srun_nil, srun_cons, sk_mv, sk_take, sk_bin, sk_lenL, get_mk, raw_slot, raw_lit, put_some, wb_nil, ev_mv, ev_take, bin_lss, ro_int, got_int, List.map_cons, List.map_nil, List.getD_cons_zero, List.getD_cons_succ, List.set_cons_zero, List.set_cons_succ, List.replicate_succ, List.replicate_zero, List.cons_append, List.nil_append, Bool.false_eq_true, ↓reduceIte]
    refine swp_lp (fun S => ∃ (k : Nat) (s1 : List Ob), k ≤ m ∧ Sp s1 cv m ∧ okSt s1 ∧ S = ⟨[v, uv, .str p, .str d, .undef, .undef, .undef, .undef, .bool false, .bool true, .undef, .undef, .sl (t.flatMap fC) t.length (.own 2), av, .undef, .undef, .undef, cv, .undef, .undef, .undef, .undef, .undef, .undef, .undef, .bool true, .undef, .int .i64 k] ++ List.replicate 161 .undef, s1⟩)
      (fun S => match S.get 27 with | .int _ k => ((m : Int) - k).toNat | _ => 0) ⟨[v, uv, .str p, .str d, .undef, .undef, .undef, .undef, .bool false, .bool true, .undef, .undef, .sl (t.flatMap fC) t.length (.own 2), av, .undef, .undef, .undef, cv, .undef, .undef, .undef, .undef, .undef, .undef, .undef, .bool true, .undef, .int .i64 0] ++ List.replicate 161 .undef, s1⟩ ?_ ⟨0, s1, Nat.zero_le _, hc1, ho1, rfl⟩ ?_
    · refine Forget.of ?_
      repeat first | exact fg_e | refine fg_d ?_ | refine fg_k rfl ?_
    clear hd hlA hk ha1 hc1 ho1
    rintro S ⟨k2, s2, hk2, hc2, ho2, rfl⟩
    by_cases hkm : k2 < m
    · have fin := fin_ltT hkm
      have hnb := hc2.1
      obtain ⟨id, X, rfl, hx, hXl, _, hXo, hst⟩ := hc2.step (s := spW) hkm
      have hd : decide ((k2 : Int) < (m : Int)) = true := by rw [decide_eq_true_eq]; omega
      have x1 : ∀ s, ev s (.idxB 2) [.slo id 0 m, .int .i64 (k2 : Int)] = some (.ptr id (k2 * 2), [], s) := fun s => by rw [idxB_O (by omega) (by omega)]; simp
      simp (maxSteps := 2000000) (disch := first | omega | (simp only [List.length_append, List.length_cons, List.length_nil, List.length_map] <;> omega)) only [hd, x1, hst, Nat.add_zero, List.set_cons_zero, List.set_cons_succ, lpK_n, ro_slo, ev_lenO, flg_int, sk_idxB, swp_seq, swp_reg, swp_skip, swp_block, swp_cond, seqK_n, blkK_n, condK_t, evK_some, appK_eq, srun_nil, srun_cons, sk_mv, sk_give, sk_bin, sk_fld, sk_store, sk_lenL, get_mk, raw_slot, raw_lit, put_some, put_none, wb_nil, ev_mv, ev_give, ev_fld, bin_add, bin_lss, ro_int, List.map_cons, List.map_nil, List.getD_cons_zero, List.getD_cons_succ, List.set_cons_zero, List.set_cons_succ, List.replicate_succ, List.replicate_zero, List.cons_append, List.nil_append, Bool.false_eq_true, ↓reduceIte, wrap_i64]
      refine ⟨_, ?_, ⟨k2 + 1, setOb s2 id (X.set (k2 * 2) (.str spW)), by omega, hc2.set hx (by simp) hXo, okSt_set ho2 hXo, rfl⟩, by exact fin⟩
      refine Forget.of ?_
      repeat first | exact fg_e | refine fg_d ?_ | refine fg_k rfl ?_
    · obtain rfl : k2 = m := by omega
      have hlC : ev s2 .lenL [cv] = some (.int .i64 k2, [], s2) := by
        obtain ⟨_, ⟨rfl, rfl⟩ | ⟨id, X, rfl, _⟩⟩ := hc2
        · rfl
        · rfl
      have hfC : ro cv = cv ∧ got cv = cv ∧ exc cv = false ∧ flg cv = false := by
        obtain ⟨_, ⟨rfl, rfl⟩ | ⟨id, X, rfl, _⟩⟩ := hc2 <;> exact ⟨rfl, rfl, rfl, rfl⟩
      obtain ⟨c1, c2, c3, c4⟩ := hfC
      have hd : decide ((k2 : Int) < (k2 : Int)) = false := by rw [decide_eq_false_iff_not]; omega
      have hv := rd_F hv' s2
      have hu := rd_F hu' s2
      have hin := ro_row (st := s2) (u := t) rfl
      have zt : decide (t = t) = true := decide_eq_true rfl
      have zb : ∀ b : Bool, (b == b) = true := fun b => by cases b <;> rfl
      have zi : ∀ x : Int, (x == x) = true := fun x => beq_self_eq_true x
      have hsz : ∀ f ∈ t, f.2.length ≤ 268435456 := fun f hf => (hs.2 f hf).2
      simp (maxSteps := 2000000) (disch := first | omega | (simp only [List.length_append, List.length_cons, List.length_nil, List.length_map] <;> omega)) only [hd, hlC, c1, q2, q3, List.set_cons_zero, List.set_cons_succ, lpK_e, exc_bool, exc_ro, exc_own, swp_seq, swp_reg, swp_exit, swp_cond, seqK_n, seqK_e, blkK_e, condK_f, evK_some, appK_eq, grd_t, srun_nil, srun_cons, stepK_call, stepK_grd, sk_mv, sk_take, sk_pick, sk_bin, sk_lenL, get_mk, raw_slot, raw_lit, put_some, wb_nil, ev_mv, ev_take, ev_pick, bin_lss, ro_int, ro_bool, got_own, got_roo, got_bool, pubs, pubsFrom, List.map_cons, List.map_nil, List.getD_cons_zero, List.getD_cons_succ, List.set_cons_zero, List.set_cons_succ, List.replicate_succ, List.replicate_zero, List.cons_append, List.nil_append, Bool.false_eq_true, ↓reduceIte]
      refine callK_intro (up (n18 hin hv hs.1)) ?_
      simp (maxSteps := 2000000) (disch := first | omega | (simp only [List.length_append, List.length_cons, List.length_nil, List.length_map] <;> omega)) only [q2, q3, List.set_cons_zero, List.set_cons_succ, evK_some, appK_eq, appC_eq, grd_t, srun_cons, stepK_call, stepK_grd, sk_mv, sk_take, sk_pick, get_mk, raw_slot, raw_lit, put_some, wb_nil, ev_mv, ev_take, ev_pick, ro_bool, pubs, pubsFrom, List.map_cons, List.map_nil, List.getD_cons_zero, List.getD_cons_succ, List.set_cons_zero, List.set_cons_succ, Bool.false_eq_true, ↓reduceIte, decide_true]
      refine callK_intro (up (n19 hv hs ho2)) ?_
      simp (maxSteps := 2000000) (disch := first | omega | (simp only [List.length_append, List.length_cons, List.length_nil, List.length_map] <;> omega)) only [q2, q3, List.set_cons_zero, List.set_cons_succ, evK_some, appK_eq, appC_eq, grd_t, srun_cons, stepK_call, stepK_grd, sk_take, get_mk, raw_slot, put_some, wb_nil, ev_take, pubs, pubsFrom, List.map_cons, List.map_nil, List.getD_cons_zero, List.getD_cons_succ, List.set_cons_zero, List.set_cons_succ, Bool.false_eq_true, ↓reduceIte]
      refine callK_intro (up (n20 hv hs ho2)) ?_
      simp (maxSteps := 2000000) (disch := first | omega | (simp only [List.length_append, List.length_cons, List.length_nil, List.length_map] <;> omega)) only [zb, q2, q3, List.set_cons_zero, List.set_cons_succ, exc_str, evK_some, appK_eq, appC_eq, grd_t, srun_cons, stepK_call, stepK_grd, sk_mv, sk_take, sk_pick, sk_eqB, get_mk, raw_slot, raw_lit, put_some, wb_nil, ev_mv, ev_take, ev_pick, ev_eqB, ro_bool, got_str, pubs, pubsFrom, List.map_cons, List.map_nil, List.getD_cons_zero, List.getD_cons_succ, List.set_cons_zero, List.set_cons_succ, Bool.false_eq_true, ↓reduceIte]
      refine callK_intro (up (n21 hv hs ho2)) ?_
      simp (maxSteps := 2000000) (disch := first | omega | (simp only [List.length_append, List.length_cons, List.length_nil, List.length_map] <;> omega)) only [q2, q3, List.set_cons_zero, List.set_cons_succ, exc_str, evK_some, appK_eq, appC_eq, grd_t, srun_cons, stepK_call, stepK_grd, sk_take, get_mk, raw_slot, put_some, wb_nil, ev_take, got_str, pubs, pubsFrom, List.map_cons, List.map_nil, List.getD_cons_zero, List.getD_cons_succ, List.set_cons_zero, List.set_cons_succ, Bool.false_eq_true, ↓reduceIte]
      refine callK_intro (up (n22 hv hs ho2)) ?_
      simp (maxSteps := 2000000) (disch := first | omega | (simp only [List.length_append, List.length_cons, List.length_nil, List.length_map] <;> omega)) only [zi, q2, q3, u2, u3, List.set_cons_zero, List.set_cons_succ, evK_some, appK_eq, appC_eq, grd_t, srun_cons, stepK_call, stepK_grd, sk_mv, sk_take, sk_pick, sk_bin, get_mk, raw_slot, raw_lit, put_some, wb_nil, ev_mv, ev_take, ev_pick, bin_eql, ro_bool, pubs, pubsFrom, List.map_cons, List.map_nil, List.getD_cons_zero, List.getD_cons_succ, List.set_cons_zero, List.set_cons_succ, Bool.false_eq_true, ↓reduceIte]
      refine callK_intro (up (n23 hv hu hs.1)) ?_
      simp (maxSteps := 2000000) (disch := first | omega | (simp only [List.length_append, List.length_cons, List.length_nil, List.length_map] <;> omega)) only [q2, q3, u2, u3, List.set_cons_zero, List.set_cons_succ, evK_some, appK_eq, appC_eq, grd_t, srun_cons, stepK_call, stepK_grd, sk_take, get_mk, raw_slot, put_some, wb_nil, ev_take, pubs, pubsFrom, List.map_cons, List.map_nil, List.getD_cons_zero, List.getD_cons_succ, List.set_cons_zero, List.set_cons_succ, Bool.false_eq_true, ↓reduceIte]
      refine callK_intro (up (n18 hv hu hs.1)) ?_
      simp (maxSteps := 2000000) (disch := first | omega | (simp only [List.length_append, List.length_cons, List.length_nil, List.length_map] <;> omega)) only [zb, q2, q3, List.set_cons_zero, List.set_cons_succ, evK_some, appK_eq, appC_eq, grd_t, srun_cons, stepK_call, stepK_grd, sk_mv, sk_take, sk_pick, sk_eqB, get_mk, raw_slot, raw_lit, put_some, wb_nil, ev_mv, ev_take, ev_pick, ev_eqB, ro_bool, pubs, pubsFrom, List.map_cons, List.map_nil, List.getD_cons_zero, List.getD_cons_succ, List.set_cons_zero, List.set_cons_succ, Bool.false_eq_true, ↓reduceIte]
      refine callK_intro (up (n24 hv hs.1 hsz ho2)) ?_
      simp (maxSteps := 2000000) (disch := first | omega | (simp only [List.length_append, List.length_cons, List.length_nil, List.length_map] <;> omega)) only [q2, q3, List.set_cons_zero, List.set_cons_succ, evK_some, appK_eq, appC_eq, grd_t, srun_cons, stepK_call, stepK_grd, sk_take, get_mk, raw_slot, put_some, wb_nil, ev_take, pubs, pubsFrom, List.map_cons, List.map_nil, List.getD_cons_zero, List.getD_cons_succ, List.set_cons_zero, List.set_cons_succ, Bool.false_eq_true, ↓reduceIte]
      refine callK_intro (up (n25 hv hs.1 hsz ho2)) ?_
      simp (maxSteps := 2000000) (disch := first | omega | (simp only [List.length_append, List.length_cons, List.length_nil, List.length_map] <;> omega)) only [zi, q2, q3, List.set_cons_zero, List.set_cons_succ, exc_str, evK_some, appK_eq, appC_eq, grd_t, srun_cons, stepK_call, stepK_grd, sk_mv, sk_take, sk_pick, sk_bin, get_mk, raw_slot, raw_lit, put_some, wb_nil, ev_mv, ev_take, ev_pick, bin_eql, ro_bool, got_str, pubs, pubsFrom, List.map_cons, List.map_nil, List.getD_cons_zero, List.getD_cons_succ, List.set_cons_zero, List.set_cons_succ, Bool.false_eq_true, ↓reduceIte]
      refine callK_intro (up (n27 hv hs hp ho2)) ?_
      have hIl : (inR t p).length ≤ 268435456 := by
        unfold inR
        split
        · have := inT_len t p; have := hs.1; omega
        · simp
      have zl : decide (inR t p = inR t p) = true := decide_eq_true rfl
      rcases inV_or (inR t p) with ⟨hn, e⟩ | ⟨_, e⟩
      · rw [e]
        simp (maxSteps := 2000000) (disch := first | omega | (simp only [List.length_append, List.length_cons, List.length_nil, List.length_map] <;> omega)) only [q2, q3, List.set_cons_zero, List.set_cons_succ, exc_str, evK_some, appK_eq, appC_eq, grd_t, srun_cons, stepK_call, stepK_grd, sk_take, get_mk, raw_slot, put_some, wb_nil, ev_take, got_str, pubs, pubsFrom, List.map_cons, List.map_nil, List.getD_cons_zero, List.getD_cons_succ, List.set_cons_zero, List.set_cons_succ, Bool.false_eq_true, ↓reduceIte]
        refine callK_intro (up (n28 hv hs hp ho2)) ?_
        rw [e]
        simp (maxSteps := 2000000) (disch := first | omega | (simp only [List.length_append, List.length_cons, List.length_nil, List.length_map] <;> omega)) only [List.set_cons_zero, List.set_cons_succ, exc_nilS, appC_eq, grd_t, srun_cons, stepK_call, stepK_grd, get_mk, raw_slot, put_some, wb_nil, got_nilS, pubs, pubsFrom, List.map_cons, List.map_nil, List.getD_cons_zero, List.getD_cons_succ, List.set_cons_zero, List.set_cons_succ, Bool.false_eq_true, ↓reduceIte]
        refine callK_intro (u26 (a := []) (b := []) (.inl ⟨rfl, rfl⟩) (.inl ⟨rfl, rfl⟩) (by simp)) ?_
        have zl : decide (([] : List (List UInt8)) = []) = true := rfl
        simp (maxSteps := 2000000) (disch := first | omega | (simp only [List.length_append, List.length_cons, List.length_nil, List.length_map] <;> omega)) only [List.set_cons_zero, List.set_cons_succ, flg_bool, swp_ret, seqK_n, evK_some, appK_eq, appC_eq, srun_nil, srun_cons, fin_ret, sk_give, sk_pick, get_mk, raw_slot, raw_lit, put_some, wb_nil, ev_give, ev_pick, ro_bool, List.map_cons, List.map_nil, List.getD_cons_zero, List.getD_cons_succ, List.set_cons_zero, List.set_cons_succ, and_true, Bool.false_eq_true, ↓reduceIte, decide_true]
        first | exact ⟨_, .same, rfl⟩ | exact ⟨_, .same⟩
      · rw [e]
        simp (maxSteps := 2000000) (disch := first | omega | (simp only [List.length_append, List.length_cons, List.length_nil, List.length_map] <;> omega)) only [q2, q3, List.set_cons_zero, List.set_cons_succ, exc_str, evK_some, appK_eq, appC_eq, grd_t, srun_cons, stepK_call, stepK_grd, sk_take, get_mk, raw_slot, put_some, wb_nil, ev_take, got_str, pubs, pubsFrom, List.map_cons, List.map_nil, List.getD_cons_zero, List.getD_cons_succ, List.set_cons_zero, List.set_cons_succ, Bool.false_eq_true, ↓reduceIte]
        refine callK_intro (up (n28 hv hs hp ho2)) ?_
        rw [e]
        simp (maxSteps := 2000000) (disch := first | omega | (simp only [List.length_append, List.length_cons, List.length_nil, List.length_map] <;> omega)) only [List.set_cons_zero, List.set_cons_succ, pub_excl2, exc_excl, appC_eq, grd_t, srun_cons, stepK_call, stepK_grd, get_mk, raw_slot, put_some, wb_nil, got_excl, pubs, pubsFrom, List.map_cons, List.map_nil, List.getD_cons_zero, List.getD_cons_succ, List.set_cons_zero, List.set_cons_succ, ↓reduceIte, Nat.zero_add]
        refine callK_intro (u26 (.inr rfl) (.inr rfl) (by omega)) ?_
        simp (maxSteps := 2000000) (disch := first | omega | (simp only [List.length_append, List.length_cons, List.length_nil, List.length_map] <;> omega)) only [List.set_cons_zero, List.set_cons_succ, flg_bool, swp_ret, seqK_n, evK_some, appK_eq, appC_eq, srun_nil, srun_cons, fin_ret, sk_give, sk_pick, get_mk, raw_slot, raw_lit, put_some, wb_nil, wb_cons, ev_give, ev_pick, ro_bool, List.map_cons, List.map_nil, List.getD_cons_zero, List.getD_cons_succ, List.set_cons_zero, List.set_cons_succ, List.getElem?_cons_zero, List.getElem?_cons_succ, and_true, Bool.false_eq_true, ↓reduceIte, decide_true]
        first | exact ⟨_, .same, rfl⟩ | exact ⟨_, .same⟩
end Go.Sh.F
