/-
  Chains: ChainAccepts, ChainSeen, ChainForks, in the shadow machine.
-/
import Derived.Test.YtdoncjpkmjganaaDoorGa3
set_option linter.unusedSimpArgs false
set_option linter.unusedVariables false
namespace Go.Sh.F
open Go.PathLaw Go.Proofs
theorem t9 {st : List Ob} (ho : okSt st) : O54 9 [] st (.bool true) st := (by repeat first | exact Or.inr ⟨rfl, rfl, ho, rfl, rfl⟩ | refine Or.inl ?_)
theorem t10 {v : SV} {l : List Mf} {st : List Ob} (h : RowM st v l) (ho : okSt st) : O54 10 [v] st (.bool (fewL l)) st := (by repeat first | exact Or.inr ⟨rfl, rfl, v, l, h, ho, rfl, rfl⟩ | refine Or.inl ?_)
theorem t13 {e : Int} {st : List Ob} : O54 13 [.int .i64 e] st (.bool (e == 11)) st := .inl r13
theorem t11 {c : Cu} {au : Int} {m : Mf} {head : Int} {v : SV} {own : List Int} {st : List Ob} (h1 : m.ok st) (h2 : m.fit) (h3 : RowI st v own) (h4 : own.length ≤ 1099511627776) (h5 : okSt st) :
    O54 11 [.agg c.cells, .int .i64 au, .agg m.cells, .int .i64 head, v] st (.tup [.agg (accC c au m head own).cells, .int .i64 (accE c au m own)]) st := .inl (r11s h1 h2 h3 h4 h5)
theorem t12 {c : Cu} {au : Int} {m : Mf} {head : Int} {v : SV} {own : List Int} {st : List Ob} (h1 : m.ok st) (h2 : m.fit) (h3 : RowI st v own) (h4 : own.length ≤ 1099511627776) (h5 : okSt st) :
    O54 12 [.agg c.cells, .int .i64 au, .agg m.cells, .int .i64 head, v] st (.tup [.agg (accC c au m head own).cells, .int .i64 (accE c au m own)]) st := (.inl (.inl (r12 h1 h2 h3 h4 h5)))
theorem t16 {c : Cu} (hc : c.fit) {au : Int} {turn : Bool} {pv ph x y : Int} {st : List Ob} (ho : okSt st) :
    O54 16 [.agg c.cells, .int .i64 au, .bool turn, .agg (pc0 pv ph x y), .nilS] st (.tup [.agg (nxtR c au turn pv ph).cells, .int .i64 (nxtF c au turn pv ph .nilS [])]) st := .inl (r16 hc ho)
theorem one_row {st : List Ob} {m : Mf} (h : m.ok st) (hf : m.fit) {f : Fl} (hfl : f = .ro ∨ f = .full) : RowM st (.sl m.cells 1 f) [m] :=
  ⟨⟨rfl, .inr (.inl ⟨f, hfl, by simp⟩)⟩, by simp, by intro x hx; simp at hx; subst hx; exact ⟨h, hf⟩⟩
set_option maxHeartbeats 16000000 in
set_option maxRecDepth 20000 in
theorem g3 (c : Cu) (au : Int) (m : Mf) (head : Int) (v : SV) (own : List Int) (st : List Ob) (hm : m.ok st) (hf : m.fit) (hv : RowI st v own) (hl : own.length ≤ 1099511627776) (ho : okSt st) :
    swpF O54 sf3 [.agg c.cells, .int .i64 au, .agg m.cells, .int .i64 head, v] st (fun r st' => r = .bool true ∧ st' = st) := by
  obtain ⟨q1, q2, q3, q4, q6, q7⟩ := hm.1.facts
  obtain ⟨u1, u2, u3, u4, u6, u7⟩ := hv.facts
  have u5 := hv.lenL
  have uv := hv.cv
  have qv := hm.1.cv
  have mk := fun x => hm.mono x
  have vk := fun x => RowAt.mono hv x
  have o0 : okSt (st ++ [.cells [.int .i64 c.ve, .int .i64 c.he, .int .i64 c.ep, .int .i64 c.ak], .cells [.int .i64 m.au, .int .i64 m.ve, .int .i64 m.pr, .int .i64 m.ep, .int .i64 m.ne, .int .i64 m.se, .int .i64 m.sh, m.pv]]) := by
    refine okSt_appL ho ?_
    have h1 := hm.idp 2
    simp only [List.all_cons, List.all_nil, Bool.and_true, obOk, idOks, idOk, List.length_cons, List.length_nil, Nat.zero_add, Bool.true_and]
    exact h1
  have o1 : ∀ k : Cu, okSt (st ++ [.cells [.int .i64 c.ve, .int .i64 c.he, .int .i64 c.ep, .int .i64 c.ak], .cells [.int .i64 m.au, .int .i64 m.ve, .int .i64 m.pr, .int .i64 m.ep, .int .i64 m.ne, .int .i64 m.se, .int .i64 m.sh, m.pv], .cells k.cells]) := by
    intro k
    refine okSt_appL ho ?_
    have h1 := hm.idp 3
    simp only [Cu.cells, List.all_cons, List.all_nil, Bool.and_true, obOk, idOks, idOk, List.length_cons, List.length_nil, Nat.zero_add, Bool.true_and]
    exact h1
  have sX := fun k : Cu => st_aggA (st := st) (l := [.cells [.int .i64 c.ve, .int .i64 c.he, .int .i64 c.ep, .int .i64 c.ak], .cells [.int .i64 m.au, .int .i64 m.ve, .int .i64 m.pr, .int .i64 m.ep, .int .i64 m.ne, .int .i64 m.se, .int .i64 m.sh, m.pv], .cells [.int .i64 0, .int .i64 0, .int .i64 0, .int .i64 0]]) (i := 2) (n := 4) (b := true) (xs := k.cells) rfl rfl rfl rfl rfl
  have sY := fun k x : Cu => st_aggA (st := st) (l := [.cells [.int .i64 c.ve, .int .i64 c.he, .int .i64 c.ep, .int .i64 c.ak], .cells [.int .i64 m.au, .int .i64 m.ve, .int .i64 m.pr, .int .i64 m.ep, .int .i64 m.ne, .int .i64 m.se, .int .i64 m.sh, m.pv], .cells k.cells, .cells [.int .i64 0, .int .i64 0, .int .i64 0, .int .i64 0]]) (i := 3) (n := 4) (b := true) (xs := x.cells) rfl rfl rfl rfl rfl
  simp only [Cu.cells] at sX sY
  simp only [Cu.cells, Mf.cells]
  simp (maxSteps := 2000000) (disch := first | omega | (simp only [List.length_append, List.length_cons, List.length_nil, List.length_map] <;> omega)) only [sf3, q6, q7, cv_agg, cell_int, List.append_assoc, List.set_cons_zero, List.set_cons_succ, flg_bool, exc_agg, swp_seq, swp_reg, seqK_n, evK_some, appK_eq, srun_nil, srun_cons, stepK_call, swpF_eq, sk_give, sk_box, get_mk, raw_slot, raw_lit, put_some, wb_nil, ev_give, ev_box, ro_bool, ro1_int, got_agg, pubs, pubsFrom, List.map_cons, List.map_nil, List.getD_cons_zero, List.getD_cons_succ, List.set_cons_zero, List.set_cons_succ, List.length_cons, List.length_nil, List.replicate_succ, List.replicate_zero, List.cons_append, List.nil_append, Nat.reduceAdd, Nat.reduceSub, Bool.false_eq_true, ↓reduceIte, List.all_cons, List.all_nil, Bool.and_self, Nat.zero_add, List.length_append]
  refine callK_intro (t9 o0) ?_
  simp (maxSteps := 2000000) (disch := first | omega | (simp only [List.length_append, List.length_cons, List.length_nil, List.length_map] <;> omega)) only [q6, q7, cv_agg, cell_int, getA, ev_ldA, List.drop_zero, List.take_succ_cons, List.take_zero, List.set_cons_zero, List.set_cons_succ, pub_excl2, apO_some, flg_bool, exc_agg, exc_excl, swp_seq, swp_reg, seqK_n, evK_some, appK_eq, appC_eq, srun_nil, srun_cons, stepK_call, sk_give, sk_load, sk_bsl, get_mk, raw_slot, put_some, wb_nil, ev_give, ev_bsl, ro_bool, ro_agg, ro1_int, got_excl, got_agg, pubs, pubsFrom, List.map_cons, List.map_nil, List.getD_cons_zero, List.getD_cons_succ, List.set_cons_zero, List.set_cons_succ, List.getElem?_cons_zero, List.getElem?_cons_succ, List.length_cons, List.length_nil, List.replicate_succ, List.replicate_zero, Nat.reduceAdd, Nat.reduceLT, and_true, Bool.false_eq_true, Option.map_some, ↓reduceIte, List.all_cons, List.all_nil, Bool.and_self, List.zip_cons_cons, List.zip_nil_right, rep, fillV, wrCells, List.flatten_cons, List.flatten_nil, List.append_nil, decide_true, Nat.zero_mul, Nat.zero_add, Nat.le_refl]
  refine callK_intro (t10 (one_row (mk _) hf (by simp)) o0) ?_
  rcases bf (fewL [m]) with h1 | h1
  · rw [h1]
    simp (maxSteps := 2000000) (disch := first | omega | (simp only [List.length_append, List.length_cons, List.length_nil, List.length_map] <;> omega)) only [List.set_cons_zero, List.set_cons_succ, flg_bool, swp_seq, swp_reg, swp_ret, swp_cond, seqK_n, seqK_r, condK_t, evK_some, appK_eq, appC_eq, grd_t, srun_nil, srun_cons, stepK_grd, fin_ret, sk_mv, sk_give, sk_pick, sk_un, get_mk, raw_slot, raw_lit, put_some, wb_nil, wb_cons, ev_mv, ev_give, ev_pick, ev_not, ro_bool, List.map_cons, List.map_nil, List.getD_cons_zero, List.getD_cons_succ, List.set_cons_zero, List.set_cons_succ, List.getElem?_cons_zero, true_and, Bool.false_eq_true, ↓reduceIte, reduceCtorEq, Bool.not_false]
    first | exact ⟨_, trim1 ho rfl⟩ | exact ⟨_, trim1 ho rfl, rfl⟩ | exact ⟨_, trim1 ho rfl, rfl, rfl⟩ | exact ⟨_, trim1 ho rfl, by simp, rfl⟩ | exact ⟨_, trim1 ho rfl, by simp⟩
  rw [h1]
  rcases bt (decide (300 < (own.length : Int))) with h2 | h2
  · simp (maxSteps := 2000000) (disch := first | omega | (simp only [List.length_append, List.length_cons, List.length_nil, List.length_map] <;> omega)) only [h2, u2, u3, u5, List.set_cons_zero, List.set_cons_succ, flg_bool, swp_seq, swp_reg, swp_ret, swp_cond, seqK_n, seqK_r, condK_t, evK_some, appK_eq, appC_eq, grd_t, srun_nil, srun_cons, stepK_grd, fin_ret, sk_mv, sk_take, sk_give, sk_pick, sk_bin, sk_un, sk_lenL, get_mk, raw_slot, raw_lit, put_some, wb_nil, wb_cons, ev_mv, ev_take, ev_give, ev_pick, ev_not, bin_gtr, ro_bool, List.map_cons, List.map_nil, List.getD_cons_zero, List.getD_cons_succ, List.set_cons_zero, List.set_cons_succ, List.getElem?_cons_zero, true_and, Bool.false_eq_true, ↓reduceIte, Bool.not_true, gt_iff_lt]
    first | exact ⟨_, trim1 ho rfl⟩ | exact ⟨_, trim1 ho rfl, rfl⟩ | exact ⟨_, trim1 ho rfl, rfl, rfl⟩ | exact ⟨_, trim1 ho rfl, by simp, rfl⟩ | exact ⟨_, trim1 ho rfl, by simp⟩
  simp (maxSteps := 2000000) (disch := first | omega | (simp only [List.length_append, List.length_cons, List.length_nil, List.length_map] <;> omega)) only [h2, q6, u1, u2, u3, u5, getA0, getA, ev_ldA, List.drop_zero, List.take_succ_cons, List.take_zero, List.set_cons_zero, List.set_cons_succ, apO_some, flg_bool, exc_int, exc_agg, swp_seq, swp_reg, swp_skip, swp_cond, seqK_n, condK_f, evK_some, appK_eq, appC_eq, grd_t, srun_nil, srun_cons, stepK_call, stepK_grd, sk_mv, sk_take, sk_give, sk_pick, sk_bin, sk_un, sk_load, sk_lenL, get_mk, raw_slot, raw_lit, put_some, wb_nil, wb_cons, ev_mv, ev_take, ev_give, ev_pick, ev_not, bin_gtr, ro_int, ro_bool, ro_agg, ro1_int, got_int, got_agg, pubs, pubsFrom, List.map_cons, List.map_nil, List.getD_cons_zero, List.getD_cons_succ, List.set_cons_zero, List.set_cons_succ, List.getElem?_cons_zero, List.getElem?_cons_succ, List.length_cons, List.length_nil, Nat.reduceAdd, Bool.false_eq_true, ↓reduceIte, Nat.zero_add, Bool.not_true, gt_iff_lt, Nat.le_refl]
  refine callK_intro (t11 (c := c) (mk _) hf (vk _) hl o0) ?_
  simp (maxSteps := 2000000) (disch := first | omega | (simp only [List.length_append, List.length_cons, List.length_nil, List.length_map] <;> omega)) only [Cu.cells, sX, q6, u1, u2, u3, getA0, getA, ev_ldA, List.drop_zero, List.take_succ_cons, List.take_zero, List.append_assoc, List.set_cons_zero, List.set_cons_succ, apO_some, flg_int, flg_agg, exc_int, exc_agg, swp_seq, swp_reg, seqK_n, evK_some, appK_eq, appC_eq, srun_nil, srun_cons, stepK_call, sk_mv, sk_give, sk_load, sk_store, sk_alloc, sk_ext, get_mk, raw_slot, put_some, put_none, wb_nil, ev_mv, ev_give, ev_ext, ev_alloc, ro_int, ro_agg, ro_tup, ro1_int, ro2_int, got_int, got_agg, pubs, pubsFrom, List.map_cons, List.map_nil, List.getD_cons_zero, List.getD_cons_succ, List.set_cons_zero, List.set_cons_succ, List.getElem?_cons_zero, List.getElem?_cons_succ, List.length_cons, List.length_nil, List.cons_append, List.nil_append, Nat.reduceAdd, Bool.false_eq_true, Option.map_some, ↓reduceIte, Nat.zero_add, List.length_append, Nat.le_refl]
  refine callK_intro (t12 (c := c) (mk _) hf (vk _) hl (o1 _)) ?_
  simp (maxSteps := 2000000) (disch := first | omega | (simp only [List.length_append, List.length_cons, List.length_nil, List.length_map] <;> omega)) only [Cu.cells, sY, eq_four, getA, ev_ldA, List.drop_zero, List.take_succ_cons, List.take_zero, List.append_assoc, List.set_cons_zero, List.set_cons_succ, apO_some, flg_int, flg_agg, exc_int, swp_seq, swp_reg, seqK_n, evK_some, appK_eq, appC_eq, grd_t, srun_nil, srun_cons, stepK_call, stepK_grd, sk_mv, sk_take, sk_give, sk_pick, sk_bin, sk_eqA, sk_load, sk_store, sk_alloc, sk_ext, get_mk, raw_slot, raw_lit, put_some, put_none, wb_nil, ev_mv, ev_take, ev_give, ev_pick, ev_ext, bin_eql, ev_alloc, ro_int, ro_bool, ro_agg, ro_tup, ro1_int, ro2_int, got_int, pubs, pubsFrom, List.map_cons, List.map_nil, List.getD_cons_zero, List.getD_cons_succ, List.set_cons_zero, List.set_cons_succ, List.getElem?_cons_zero, List.getElem?_cons_succ, List.length_cons, List.length_nil, List.cons_append, List.nil_append, Nat.reduceAdd, Bool.false_eq_true, Option.map_some, ↓reduceIte, Bool.and_self, Nat.zero_add, beq_self_eq_true, List.length_append, Nat.le_refl]
  refine callK_intro t13 ?_
  simp (maxSteps := 2000000) (disch := first | omega | (simp only [List.length_append, List.length_cons, List.length_nil, List.length_map] <;> omega)) only [List.set_cons_zero, List.set_cons_succ, flg_bool, exc_int, swp_ret, seqK_n, evK_some, appK_eq, appC_eq, grd_t, srun_nil, srun_cons, stepK_grd, fin_ret, sk_take, sk_give, sk_pick, sk_bin, sk_eqB, get_mk, raw_slot, raw_lit, put_some, wb_nil, ev_take, ev_give, ev_pick, ev_eqB, bin_eql, ro_bool, got_int, List.map_cons, List.map_nil, List.getD_cons_zero, List.getD_cons_succ, List.set_cons_zero, List.set_cons_succ, true_and, Bool.false_eq_true, ↓reduceIte, beq_self_eq_true]
  first | exact ⟨_, trim1 ho rfl⟩ | exact ⟨_, trim1 ho rfl, rfl⟩ | exact ⟨_, trim1 ho rfl, rfl, rfl⟩ | exact ⟨_, trim1 ho rfl, by simp, rfl⟩ | exact ⟨_, trim1 ho rfl, by simp⟩
/-- Seen: what is wanted. -/
theorem nxt_ok {c : Cu} {au : Int} {turn : Bool} {pv ph : Int} (h : nxtF c au turn pv ph .nilS [] = 0) : nxtR c au turn pv ph = nxtM c au turn pv ph .nilS [] ∧ rightM (nxtM c au turn pv ph .nilS []) = true ∧ c.ve < 200 ∧ nxtE c turn ≤ 100 := by
  refine ⟨by unfold nxtR; rw [if_pos h], ?_⟩
  unfold nxtF at h
  split at h
  · cases h
  · rename_i h1
    split at h
    · rename_i h2
      simp at h1
      exact ⟨h2, by omega, by omega⟩
    · cases h
theorem nxt_no {c : Cu} {au : Int} {turn : Bool} {pv ph : Int} (h : nxtF c au turn pv ph .nilS [] ≠ 0) : nxtR c au turn pv ph = Mf.none ∧ (nxtF c au turn pv ph .nilS [] = 2 ∨ nxtF c au turn pv ph .nilS [] = 4) := by
  refine ⟨by unfold nxtR; rw [if_neg h], ?_⟩
  unfold nxtF at h ⊢
  split
  · left; rfl
  · rename_i h1
    rw [if_neg h1] at h
    split
    · rename_i h2; rw [if_pos h2] at h; exact absurd rfl h
    · right; rfl
theorem acc_if {c : Cu} {au : Int} {m : Mf} {own : List Int} (h1 : rightM m = true) (h2 : m.au = au) (h3 : m.ve = c.ve + 1) (h4 : m.pr = c.he) (h5 : m.ep = c.ep) :
    accE c au m own = if decide (c.ak ≤ m.se) && m.sh == digF own m.se then 0 else 11 := by
  have e1 : decide (c.ve < m.ve) = true := by rw [decide_eq_true_eq]; omega
  have e2 : decide (m.ve - 1 ≤ c.ve) = true := by rw [decide_eq_true_eq]; omega
  cases hB : (decide (c.ak ≤ m.se) && m.sh == digF own m.se) with
  | true =>
    rw [if_pos rfl]
    rw [Bool.and_eq_true, decide_eq_true_eq, beq_iff_eq] at hB
    exact acc_of ⟨h1, h2, h3, h4, h5, hB.1, hB.2⟩
  | false =>
    unfold accE
    simp only [h1, h2, e1, e2, h4, h5, hB, beq_self_eq_true, Bool.and_self, Bool.not_true, Bool.not_false, Bool.false_eq_true, if_false, if_true]
theorem acc_nxt {c : Cu} {au : Int} {turn : Bool} {pv ph : Int} {own : List Int} (hr : rightM (nxtM c au turn pv ph .nilS []) = true) :
    accE c au (nxtM c au turn pv ph .nilS []) own = if decide (c.ak ≤ pv) && ph == digF own pv then 0 else 11 := acc_if hr rfl rfl rfl rfl
theorem right_sh {m : Mf} (h : rightM m = true) : wth MX m.sh = true := by
  simp only [rightM, headM, Bool.and_eq_true] at h
  exact h.1.1.1.1.1.2
theorem dig_want {own : List Int} {pv ph : Int} (h0 : 0 ≤ pv) (hp : 0 ≤ ph) : (ph == digF own pv) = (decide (pv ≤ own.length) && ((pv == 0 && ph == 0) || (decide (0 < pv) && own.getD (pv - 1).toNat 0 == ph))) := by
  unfold digF
  by_cases h1 : pv = 0
  · subst h1; simp
  · rw [if_neg h1]
    by_cases h2 : (own.length : Int) < pv
    · rw [if_pos (.inr h2)]
      have : decide (pv ≤ (own.length : Int)) = false := by simp; omega
      rw [this, Bool.false_and, beq_eq_false_iff_ne]; omega
    · rw [if_neg (by omega)]
      have e1 : decide (pv ≤ (own.length : Int)) = true := by simp; omega
      have e2 : (pv == 0) = false := by simpa using h1
      have e3 : decide (0 < pv) = true := by simp; omega
      rw [e1, e2, e3]
      simp only [Bool.false_and, Bool.false_or, Bool.true_and]
      exact Bool.eq_iff_iff.2 ⟨fun h => by simp at h ⊢; exact h.symm, fun h => by simp at h ⊢; exact h.symm⟩
set_option maxHeartbeats 16000000 in
set_option maxRecDepth 20000 in
theorem g8 (c : Cu) (hcf : c.fit) (au : Int) (v : SV) (own : List Int) (seen dig : Int) (st : List Ob) (hv : RowI st v own) (hl : own.length ≤ 1099511627776) (ho : okSt st) :
    swpF O54 sf8 [.agg c.cells, .int .i64 au, v, .int .i64 seen, .int .i64 dig] st (fun r st' => r = .bool true ∧ st' = st) := by
  obtain ⟨u1, u2, u3, u4, u6, u7⟩ := hv.facts
  have u5 := hv.lenL
  have uv := hv.cv
  have vk := fun x => RowAt.mono hv x
  have o0 : okSt (st ++ [.cells [.int .i64 c.ve, .int .i64 c.he, .int .i64 c.ep, .int .i64 c.ak]]) := okSt_appL ho rfl
  have oM : ∀ m : Mf, m.pv = .nilS → okSt (st ++ [.cells [.int .i64 c.ve, .int .i64 c.he, .int .i64 c.ep, .int .i64 c.ak], .cells m.cells]) := by
    intro m hm
    refine okSt_appL ho ?_
    simp only [Mf.cells, hm]; rfl
  have s8 := fun (a b d e f g h : Int) => st_aggA (st := st) (l := [.cells [.int .i64 c.ve, .int .i64 c.he, .int .i64 c.ep, .int .i64 c.ak], .cells [.int .i64 0, .int .i64 0, .int .i64 0, .int .i64 0, .int .i64 0, .int .i64 0, .int .i64 0, .nilS]]) (i := 1) (n := 8) (b := true) (xs := [.int .i64 a, .int .i64 b, .int .i64 d, .int .i64 e, .int .i64 f, .int .i64 g, .int .i64 h, .nilS]) rfl rfl rfl rfl rfl
  have sX := fun (a b d e : Int) (w : Ob) => st_aggA (st := st) (l := [.cells [.int .i64 c.ve, .int .i64 c.he, .int .i64 c.ep, .int .i64 c.ak], w, .cells [.int .i64 0, .int .i64 0, .int .i64 0, .int .i64 0]]) (i := 2) (n := 4) (b := true) (xs := [.int .i64 a, .int .i64 b, .int .i64 d, .int .i64 e]) rfl rfl rfl rfl rfl
  simp only [Cu.cells]
  simp (maxSteps := 2000000) (disch := first | omega | (simp only [List.length_append, List.length_cons, List.length_nil, List.length_map] <;> omega)) only [sf8, cv_agg, cell_int, List.set_cons_zero, List.set_cons_succ, flg_bool, exc_agg, swp_seq, swp_reg, seqK_n, evK_some, appK_eq, srun_nil, srun_cons, stepK_call, swpF_eq, sk_give, sk_box, get_mk, raw_slot, raw_lit, put_some, wb_nil, ev_give, ev_box, ro_bool, ro1_int, got_agg, pubs, pubsFrom, List.map_cons, List.map_nil, List.getD_cons_zero, List.set_cons_zero, List.set_cons_succ, List.length_cons, List.length_nil, List.replicate_succ, List.replicate_zero, List.cons_append, List.nil_append, Nat.reduceAdd, Nat.reduceSub, Bool.false_eq_true, ↓reduceIte, List.all_cons, List.all_nil, Bool.and_self, Nat.zero_add]
  refine callK_intro (t9 o0) ?_
  rcases bt (decide (100 < (own.length : Int))) with h1 | h1
  · simp (maxSteps := 2000000) (disch := first | omega | (simp only [List.length_append, List.length_cons, List.length_nil, List.length_map] <;> omega)) only [h1, u1, u5, List.set_cons_zero, List.set_cons_succ, flg_bool, swp_seq, swp_reg, swp_ret, swp_cond, seqK_n, seqK_r, condK_t, evK_some, appK_eq, appC_eq, srun_nil, srun_cons, fin_ret, sk_mv, sk_give, sk_bin, sk_lenL, get_mk, raw_slot, raw_lit, put_some, wb_nil, ev_mv, ev_give, bin_gtr, ro_bool, List.map_cons, List.map_nil, List.getD_cons_zero, List.getD_cons_succ, List.set_cons_zero, List.set_cons_succ, true_and, Bool.false_eq_true, ↓reduceIte, gt_iff_lt]
    first | exact ⟨_, trim1 ho rfl⟩ | exact ⟨_, trim1 ho rfl, rfl⟩ | exact ⟨_, trim1 ho rfl, rfl, rfl⟩ | exact ⟨_, trim1 ho rfl, by simp, rfl⟩ | exact ⟨_, trim1 ho rfl, by simp⟩
  simp (maxSteps := 2000000) (disch := first | omega | (simp only [List.length_append, List.length_cons, List.length_nil, List.length_map] <;> omega)) only [h1, u1, u5, cv_int, cell_int, getA0, ev_ldA, List.drop_zero, List.take_succ_cons, List.take_zero, List.set_cons_zero, List.set_cons_succ, apO_some, flg_bool, exc_bool, exc_int, exc_nilS, exc_agg, swp_seq, swp_reg, swp_skip, swp_cond, seqK_n, condK_f, evK_some, appK_eq, appC_eq, srun_nil, srun_cons, stepK_call, sk_mv, sk_give, sk_bin, sk_load, sk_lenL, sk_bld, get_mk, raw_slot, raw_lit, put_some, wb_nil, ev_mv, ev_give, bin_gtr, ev_bld, ro_int, ro_bool, ro_agg, ro1_int, got_int, got_bool, got_nilS, got_agg, pubs, pubsFrom, List.map_cons, List.map_nil, List.getD_cons_zero, List.getD_cons_succ, List.set_cons_zero, List.set_cons_succ, List.getElem?_cons_zero, List.length_cons, List.length_nil, Nat.reduceAdd, Nat.reduceLeDiff, and_true, Bool.false_eq_true, Option.map_some, ↓reduceIte, List.all_cons, List.all_nil, Bool.and_self, List.zip_cons_cons, List.zip_nil_right, fillV, wrCells, Nat.zero_add, gt_iff_lt, Nat.le_refl]
  refine callK_intro (t16 (c := c) hcf (au := au) (turn := false) (pv := seen) (ph := dig) (x := 0) (y := 0) o0) ?_
  rcases bf (nxtF c au false seen dig .nilS [] == 0) with e1 | e1
  · have e1' : nxtF c au false seen dig .nilS [] ≠ 0 := by simpa using e1
    rw [(nxt_no e1').1]
    simp (maxSteps := 2000000) (disch := first | omega | (simp only [List.length_append, List.length_cons, List.length_nil, List.length_map] <;> omega)) only [Mf.none, Mf.cells, s8, e1, nbI, getA, List.append_assoc, List.set_cons_zero, List.set_cons_succ, flg_bool, flg_int, flg_agg, swp_seq, swp_reg, swp_ret, swp_cond, seqK_n, seqK_r, condK_t, evK_some, appK_eq, appC_eq, grd_t, srun_nil, srun_cons, stepK_grd, fin_ret, sk_mv, sk_give, sk_pick, sk_bin, sk_fld, sk_load, sk_store, sk_alloc, sk_ext, get_mk, raw_slot, raw_lit, put_some, put_none, wb_nil, ev_mv, ev_give, ev_pick, ev_fld, ev_ext, bin_eql, bin_neq, ev_alloc, ev_ldP, ldP_some, ro_int, ro_bool, ro_agg, ro_tup, ro1_int, ro1_nilS, ro2_int, List.map_cons, List.map_nil, List.getD_cons_zero, List.getD_cons_succ, List.set_cons_zero, List.set_cons_succ, List.getElem?_cons_zero, List.getElem?_cons_succ, List.length_cons, List.length_nil, List.cons_append, List.nil_append, true_and, Bool.false_eq_true, Option.map_some, ↓reduceIte, Nat.zero_add, Bool.not_false, beq_self_eq_true, List.length_append]
    first | exact ⟨_, trim1 ho rfl⟩ | exact ⟨_, trim1 ho rfl, rfl⟩ | exact ⟨_, trim1 ho rfl, rfl, rfl⟩ | exact ⟨_, trim1 ho rfl, by simp, rfl⟩ | exact ⟨_, trim1 ho rfl, by simp⟩
  have e1' : nxtF c au false seen dig .nilS [] = 0 := by simpa using e1
  obtain ⟨en, hr, hve, hne⟩ := nxt_ok e1'
  rw [en]
  have hrh := right_head hr
  have hse : 0 ≤ seen := by
    have t : wth MX seen = true := hrh.2.2.2.1
    simp only [wth, Bool.and_eq_true, decide_eq_true_eq] at t; exact t.1
  have hdg : 0 ≤ dig := by
    have t : wth MX dig = true := right_sh hr
    simp only [wth, Bool.and_eq_true, decide_eq_true_eq] at t; exact t.1
  have ha := acc_nxt (own := own) hr
  have hw := dig_want (own := own) (pv := seen) (ph := dig) hse hdg
  have hMf : (nxtM c au false seen dig .nilS []).fit := by unfold nxtM Mf.fit; simp only; obtain ⟨⟨_, _⟩, _⟩ := hcf; omega
  have fin : ∀ (W : Bool), (decide (c.ak ≤ seen) && dig == digF own seen) = W → (accE c au (nxtM c au false seen dig .nilS []) own = if W then 0 else 11) ∧ (accC c au (nxtM c au false seen dig .nilS []) 5 own = if W then ⟨c.ve + 1, 5, nxtE c false, seen⟩ else c) := by
    intro W hW
    rw [hW] at ha
    refine ⟨ha, ?_⟩
    unfold accC
    rw [ha]
    cases W <;> rfl
  rcases bf (decide (c.ak ≤ seen)) with h2 | h2
  · obtain ⟨x1, x2⟩ := fin false (by rw [h2]; rfl)
    simp (maxSteps := 2000000) (disch := first | omega | (simp only [List.length_append, List.length_cons, List.length_nil, List.length_map] <;> omega)) only [nxtM, Mf.cells, s8, e1, h2, u1, u2, u3, nbI, getA0, getA, ev_ldA, List.drop_zero, List.take_succ_cons, List.take_zero, List.append_assoc, List.set_cons_zero, List.set_cons_succ, apO_some, flg_bool, flg_int, flg_agg, exc_int, exc_agg, grd_s, swp_seq, swp_reg, swp_skip, swp_cond, seqK_n, condK_f, evK_some, appK_eq, appC_eq, grd_t, srun_nil, srun_cons, stepK_call, stepK_grd, sk_mv, sk_give, sk_pick, sk_bin, sk_fld, sk_load, sk_store, sk_alloc, sk_ext, get_mk, raw_slot, raw_lit, put_some, put_none, wb_nil, ev_mv, ev_give, ev_pick, ev_fld, ev_ext, bin_neq, bin_geq, ev_alloc, ev_ldP, ldP_some, ro_int, ro_bool, ro_agg, ro_tup, ro1_int, ro1_nilS, ro2_int, got_int, got_agg, pubs, pubsFrom, List.map_cons, List.map_nil, List.getD_cons_zero, List.getD_cons_succ, List.set_cons_zero, List.set_cons_succ, List.getElem?_cons_zero, List.getElem?_cons_succ, List.length_cons, List.length_nil, List.cons_append, List.nil_append, Nat.reduceAdd, Bool.false_eq_true, Option.map_some, ↓reduceIte, Nat.zero_add, Bool.not_true, ge_iff_le, List.length_append, Nat.le_refl]
    refine callK_intro (t11 (c := c) (m := nxtM c au false seen dig .nilS []) (nil_ok rfl rfl _) hMf (vk _) hl (oM (nxtM c au false seen dig .nilS []) rfl)) ?_
    rw [x1, x2]
    simp only [Bool.false_eq_true, if_false]
    simp (maxSteps := 2000000) (disch := first | omega | (simp only [List.length_append, List.length_cons, List.length_nil, List.length_map] <;> omega)) only [Cu.cells, sX, nbI, eq_four, getA0, getA, ev_ldA, List.drop_zero, List.take_succ_cons, List.take_zero, List.append_assoc, List.set_cons_zero, List.set_cons_succ, apO_some, flg_bool, flg_int, flg_agg, exc_bool, exc_int, swp_seq, swp_reg, swp_ret, seqK_n, evK_some, appK_eq, appC_eq, grd_t, srun_nil, srun_cons, stepK_grd, fin_ret, sk_mv, sk_take, sk_give, sk_pick, sk_bin, sk_eqB, sk_eqA, sk_load, sk_store, sk_alloc, sk_ext, get_mk, raw_slot, raw_lit, put_some, put_none, wb_nil, ev_mv, ev_take, ev_give, ev_pick, ev_eqB, ev_ext, bin_eql, bin_neq, ev_alloc, ro_int, ro_bool, ro_agg, ro_tup, ro1_int, ro2_int, got_int, got_bool, List.map_cons, List.map_nil, List.getD_cons_zero, List.getD_cons_succ, List.set_cons_zero, List.set_cons_succ, List.getElem?_cons_zero, List.getElem?_cons_succ, List.length_cons, List.length_nil, List.cons_append, List.nil_append, Nat.reduceAdd, true_and, Bool.false_eq_true, Option.map_some, ↓reduceIte, Bool.and_self, Nat.zero_add, reduceCtorEq, Bool.not_false, beq_self_eq_true, Int.reduceBEq, List.length_append, Nat.le_refl]
    first | exact ⟨_, trim1 ho rfl⟩ | exact ⟨_, trim1 ho rfl, rfl⟩ | exact ⟨_, trim1 ho rfl, rfl, rfl⟩ | exact ⟨_, trim1 ho rfl, by simp, rfl⟩ | exact ⟨_, trim1 ho rfl, by simp⟩
  rcases bf (decide (seen ≤ (own.length : Int))) with h3 | h3
  · obtain ⟨x1, x2⟩ := fin false (by rw [h2, hw, h3]; rfl)
    simp (maxSteps := 2000000) (disch := first | omega | (simp only [List.length_append, List.length_cons, List.length_nil, List.length_map] <;> omega)) only [nxtM, Mf.cells, s8, e1, h2, h3, u1, u2, u3, u5, nbI, getA0, getA, ev_ldA, List.drop_zero, List.take_succ_cons, List.take_zero, List.append_assoc, List.set_cons_zero, List.set_cons_succ, apO_some, flg_bool, flg_int, flg_agg, exc_int, exc_agg, grd_s, swp_seq, swp_reg, swp_skip, swp_cond, seqK_n, condK_f, evK_some, appK_eq, appC_eq, grd_t, srun_nil, srun_cons, stepK_call, stepK_grd, sk_mv, sk_take, sk_give, sk_pick, sk_bin, sk_fld, sk_load, sk_store, sk_lenL, sk_alloc, sk_ext, get_mk, raw_slot, raw_lit, put_some, put_none, wb_nil, ev_mv, ev_take, ev_give, ev_pick, ev_fld, ev_ext, bin_neq, bin_leq, bin_geq, ev_alloc, ev_ldP, ldP_some, ro_int, ro_bool, ro_agg, ro_tup, ro1_int, ro1_nilS, ro2_int, got_int, got_agg, pubs, pubsFrom, List.map_cons, List.map_nil, List.getD_cons_zero, List.getD_cons_succ, List.set_cons_zero, List.set_cons_succ, List.getElem?_cons_zero, List.getElem?_cons_succ, List.length_cons, List.length_nil, List.cons_append, List.nil_append, Nat.reduceAdd, Bool.false_eq_true, Option.map_some, ↓reduceIte, Nat.zero_add, Bool.not_true, ge_iff_le, List.length_append, Nat.le_refl]
    refine callK_intro (t11 (c := c) (m := nxtM c au false seen dig .nilS []) (nil_ok rfl rfl _) hMf (vk _) hl (oM (nxtM c au false seen dig .nilS []) rfl)) ?_
    rw [x1, x2]
    simp only [Bool.false_eq_true, if_false]
    simp (maxSteps := 2000000) (disch := first | omega | (simp only [List.length_append, List.length_cons, List.length_nil, List.length_map] <;> omega)) only [Cu.cells, sX, nbI, eq_four, getA0, getA, ev_ldA, List.drop_zero, List.take_succ_cons, List.take_zero, List.append_assoc, List.set_cons_zero, List.set_cons_succ, apO_some, flg_bool, flg_int, flg_agg, exc_bool, exc_int, swp_seq, swp_reg, swp_ret, seqK_n, evK_some, appK_eq, appC_eq, grd_t, srun_nil, srun_cons, stepK_grd, fin_ret, sk_mv, sk_take, sk_give, sk_pick, sk_bin, sk_eqB, sk_eqA, sk_load, sk_store, sk_alloc, sk_ext, get_mk, raw_slot, raw_lit, put_some, put_none, wb_nil, ev_mv, ev_take, ev_give, ev_pick, ev_eqB, ev_ext, bin_eql, bin_neq, ev_alloc, ro_int, ro_bool, ro_agg, ro_tup, ro1_int, ro2_int, got_int, got_bool, List.map_cons, List.map_nil, List.getD_cons_zero, List.getD_cons_succ, List.set_cons_zero, List.set_cons_succ, List.getElem?_cons_zero, List.getElem?_cons_succ, List.length_cons, List.length_nil, List.cons_append, List.nil_append, Nat.reduceAdd, true_and, Bool.false_eq_true, Option.map_some, ↓reduceIte, Bool.and_self, Nat.zero_add, reduceCtorEq, Bool.not_false, beq_self_eq_true, Int.reduceBEq, List.length_append, Nat.le_refl]
    first | exact ⟨_, trim1 ho rfl⟩ | exact ⟨_, trim1 ho rfl, rfl⟩ | exact ⟨_, trim1 ho rfl, rfl, rfl⟩ | exact ⟨_, trim1 ho rfl, by simp, rfl⟩ | exact ⟨_, trim1 ho rfl, by simp⟩
  rcases bt (seen == 0) with h4 | h4
  · have h7 : decide (0 < seen) = false := by simp at h4 ⊢; omega
    rcases bt (dig == 0) with h5 | h5
    · obtain ⟨x1, x2⟩ := fin true (by rw [h2, hw, h3, h4, h5]; rfl)
      simp (maxSteps := 2000000) (disch := first | omega | (simp only [List.length_append, List.length_cons, List.length_nil, List.length_map] <;> omega)) only [nxtM, Mf.cells, s8, e1, h2, h3, h4, h5, u1, u2, u3, u5, nbI, getA0, getA, ev_ldA, List.drop_zero, List.take_succ_cons, List.take_zero, List.append_assoc, List.set_cons_zero, List.set_cons_succ, apO_some, flg_bool, flg_int, flg_agg, exc_bool, exc_int, exc_agg, grd_s, swp_seq, swp_reg, swp_skip, swp_cond, seqK_n, condK_f, evK_some, appK_eq, appC_eq, grd_t, srun_nil, srun_cons, stepK_call, stepK_grd, sk_mv, sk_take, sk_give, sk_pick, sk_bin, sk_fld, sk_load, sk_store, sk_lenL, sk_alloc, sk_ext, get_mk, raw_slot, raw_lit, put_some, put_none, wb_nil, ev_mv, ev_take, ev_give, ev_pick, ev_fld, ev_ext, bin_eql, bin_neq, bin_leq, bin_geq, ev_alloc, ev_ldP, ldP_some, ro_int, ro_bool, ro_agg, ro_tup, ro1_int, ro1_nilS, ro2_int, got_int, got_bool, got_agg, pubs, pubsFrom, List.map_cons, List.map_nil, List.getD_cons_zero, List.getD_cons_succ, List.set_cons_zero, List.set_cons_succ, List.getElem?_cons_zero, List.getElem?_cons_succ, List.length_cons, List.length_nil, List.cons_append, List.nil_append, Nat.reduceAdd, Bool.false_eq_true, Option.map_some, ↓reduceIte, Nat.zero_add, reduceCtorEq, Bool.not_true, ge_iff_le, List.length_append, Nat.le_refl]
      refine callK_intro (t11 (c := c) (m := nxtM c au false seen dig .nilS []) (nil_ok rfl rfl _) hMf (vk _) hl (oM (nxtM c au false seen dig .nilS []) rfl)) ?_
      rw [x1, x2]
      simp only [if_true]
      simp (maxSteps := 2000000) (disch := first | omega | (simp only [List.length_append, List.length_cons, List.length_nil, List.length_map] <;> omega)) only [Cu.cells, sX, getA, List.append_assoc, List.set_cons_zero, List.set_cons_succ, flg_bool, flg_int, flg_agg, exc_bool, exc_int, grd_s, swp_seq, swp_reg, swp_ret, seqK_n, evK_some, appK_eq, appC_eq, grd_t, srun_nil, srun_cons, stepK_grd, fin_ret, sk_mv, sk_take, sk_give, sk_pick, sk_bin, sk_eqB, sk_fld, sk_load, sk_store, sk_alloc, sk_ext, get_mk, raw_slot, raw_lit, put_some, put_none, wb_nil, ev_mv, ev_take, ev_give, ev_pick, ev_eqB, ev_fld, ev_ext, bin_eql, bin_neq, ev_alloc, ev_ldP, ldP_some, ro_int, ro_bool, ro_agg, ro_tup, ro1_int, ro2_int, got_int, got_bool, List.map_cons, List.map_nil, List.getD_cons_zero, List.getD_cons_succ, List.set_cons_zero, List.set_cons_succ, List.getElem?_cons_zero, List.getElem?_cons_succ, List.length_cons, List.length_nil, List.cons_append, List.nil_append, Nat.reduceAdd, true_and, Bool.false_eq_true, Option.map_some, ↓reduceIte, Nat.zero_add, reduceCtorEq, beq_self_eq_true, bne_self_eq_false, List.length_append]
      first | exact ⟨_, trim1 ho rfl⟩ | exact ⟨_, trim1 ho rfl, rfl⟩ | exact ⟨_, trim1 ho rfl, rfl, rfl⟩ | exact ⟨_, trim1 ho rfl, by simp, rfl⟩ | exact ⟨_, trim1 ho rfl, by simp⟩
    · obtain ⟨x1, x2⟩ := fin false (by rw [h2, hw, h3, h4, h5, h7]; rfl)
      simp (maxSteps := 2000000) (disch := first | omega | (simp only [List.length_append, List.length_cons, List.length_nil, List.length_map] <;> omega)) only [nxtM, Mf.cells, s8, e1, h2, h3, h4, h5, h7, u1, u2, u3, u5, nbI, getA0, getA, ev_ldA, List.drop_zero, List.take_succ_cons, List.take_zero, List.append_assoc, List.set_cons_zero, List.set_cons_succ, apO_some, flg_bool, flg_int, flg_agg, exc_bool, exc_int, exc_agg, swp_seq, swp_reg, swp_skip, swp_cond, seqK_n, condK_f, evK_some, appK_eq, appC_eq, grd_t, srun_nil, srun_cons, stepK_call, stepK_grd, sk_mv, sk_take, sk_give, sk_pick, sk_bin, sk_fld, sk_load, sk_store, sk_lenL, sk_alloc, sk_ext, get_mk, raw_slot, raw_lit, put_some, put_none, wb_nil, ev_mv, ev_take, ev_give, ev_pick, ev_fld, ev_ext, bin_eql, bin_neq, bin_leq, bin_gtr, bin_geq, ev_alloc, ev_ldP, ldP_some, ro_int, ro_bool, ro_agg, ro_tup, ro1_int, ro1_nilS, ro2_int, got_int, got_bool, got_agg, pubs, pubsFrom, List.map_cons, List.map_nil, List.getD_cons_zero, List.getD_cons_succ, List.set_cons_zero, List.set_cons_succ, List.getElem?_cons_zero, List.getElem?_cons_succ, List.length_cons, List.length_nil, List.cons_append, List.nil_append, Nat.reduceAdd, Bool.false_eq_true, Option.map_some, ↓reduceIte, Nat.zero_add, Bool.not_true, ge_iff_le, gt_iff_lt, List.length_append, Nat.le_refl]
      refine callK_intro (t11 (c := c) (m := nxtM c au false seen dig .nilS []) (nil_ok rfl rfl _) hMf (vk _) hl (oM (nxtM c au false seen dig .nilS []) rfl)) ?_
      rw [x1, x2]
      simp only [Bool.false_eq_true, if_false]
      simp (maxSteps := 2000000) (disch := first | omega | (simp only [List.length_append, List.length_cons, List.length_nil, List.length_map] <;> omega)) only [Cu.cells, sX, nbI, eq_four, getA0, getA, ev_ldA, List.drop_zero, List.take_succ_cons, List.take_zero, List.append_assoc, List.set_cons_zero, List.set_cons_succ, apO_some, flg_bool, flg_int, flg_agg, exc_bool, exc_int, swp_seq, swp_reg, swp_ret, seqK_n, evK_some, appK_eq, appC_eq, grd_t, srun_nil, srun_cons, stepK_grd, fin_ret, sk_mv, sk_take, sk_give, sk_pick, sk_bin, sk_eqB, sk_eqA, sk_load, sk_store, sk_alloc, sk_ext, get_mk, raw_slot, raw_lit, put_some, put_none, wb_nil, ev_mv, ev_take, ev_give, ev_pick, ev_eqB, ev_ext, bin_eql, bin_neq, ev_alloc, ro_int, ro_bool, ro_agg, ro_tup, ro1_int, ro2_int, got_int, got_bool, List.map_cons, List.map_nil, List.getD_cons_zero, List.getD_cons_succ, List.set_cons_zero, List.set_cons_succ, List.getElem?_cons_zero, List.getElem?_cons_succ, List.length_cons, List.length_nil, List.cons_append, List.nil_append, Nat.reduceAdd, true_and, Bool.false_eq_true, Option.map_some, ↓reduceIte, Bool.and_self, Nat.zero_add, reduceCtorEq, Bool.not_false, beq_self_eq_true, Int.reduceBEq, List.length_append, Nat.le_refl]
      first | exact ⟨_, trim1 ho rfl⟩ | exact ⟨_, trim1 ho rfl, rfl⟩ | exact ⟨_, trim1 ho rfl, rfl, rfl⟩ | exact ⟨_, trim1 ho rfl, by simp, rfl⟩ | exact ⟨_, trim1 ho rfl, by simp⟩
  have h7 : decide (0 < seen) = true := by simp at h4 ⊢; omega
  have h3' : seen ≤ (own.length : Int) := by simpa using h3
  have h4' : seen ≠ 0 := by simpa using h4
  obtain ⟨k, ek, hk, _⟩ := digF_at (own := own) (v := seen) (by omega) h3'
  have eg : own.getD (seen - 1).toNat 0 = own[k] := by
    have : (seen - 1).toNat = k := by omega
    rw [this, List.getD_eq_getElem?_getD, List.getElem?_eq_getElem hk]; rfl
  have z1 := hv.idxB hk .i64
  rw [Nat.mul_one] at z1
  have z2 := hv.ld1 (isv_at (List.getElem?_eq_getElem hk))
  rcases bf (own[k] == dig) with h6 | h6
  · obtain ⟨x1, x2⟩ := fin false (by rw [h2, hw, h3, h4, h7, eg, h6]; rfl)
    simp (maxSteps := 2000000) (disch := first | omega | (simp only [List.length_append, List.length_cons, List.length_nil, List.length_map] <;> omega)) only [nxtM, Mf.cells, s8, e1, h2, h3, h4, h7, ek, z1, z2, h6, u1, u2, u3, u5, nbI, getA0, getA, ev_ldA, List.drop_zero, List.take_succ_cons, List.take_zero, List.append_assoc, List.set_cons_zero, List.set_cons_succ, apO_some, flg_bool, flg_int, flg_agg, exc_bool, exc_int, exc_agg, sk_idxB, swp_seq, swp_reg, swp_skip, swp_cond, seqK_n, condK_f, evK_some, appK_eq, appC_eq, grd_t, srun_nil, srun_cons, stepK_call, stepK_grd, sk_mv, sk_take, sk_give, sk_pick, sk_bin, sk_fld, sk_load, sk_store, sk_lenL, sk_alloc, sk_ext, get_mk, raw_slot, raw_lit, put_some, put_none, wb_nil, ev_mv, ev_take, ev_give, ev_pick, ev_fld, ev_ext, bin_sub, bin_eql, bin_neq, bin_leq, bin_gtr, bin_geq, ev_alloc, ev_ldP, ldP_some, ro_int, ro_bool, ro_agg, ro_tup, ro1_int, ro1_nilS, ro2_int, got_int, got_bool, got_agg, pubs, pubsFrom, List.map_cons, List.map_nil, List.getD_cons_zero, List.getD_cons_succ, List.set_cons_zero, List.set_cons_succ, List.getElem?_cons_zero, List.getElem?_cons_succ, List.length_cons, List.length_nil, List.cons_append, List.nil_append, Nat.reduceAdd, Bool.false_eq_true, Option.map_some, ↓reduceIte, Nat.zero_add, Bool.not_true, ge_iff_le, gt_iff_lt, wrap_i64, List.length_append, Nat.le_refl]
    refine callK_intro (t11 (c := c) (m := nxtM c au false seen dig .nilS []) (nil_ok rfl rfl _) hMf (vk _) hl (oM (nxtM c au false seen dig .nilS []) rfl)) ?_
    rw [x1, x2]
    simp only [Bool.false_eq_true, if_false]
    simp (maxSteps := 2000000) (disch := first | omega | (simp only [List.length_append, List.length_cons, List.length_nil, List.length_map] <;> omega)) only [Cu.cells, sX, nbI, eq_four, getA0, getA, ev_ldA, List.drop_zero, List.take_succ_cons, List.take_zero, List.append_assoc, List.set_cons_zero, List.set_cons_succ, apO_some, flg_bool, flg_int, flg_agg, exc_bool, exc_int, swp_seq, swp_reg, swp_ret, seqK_n, evK_some, appK_eq, appC_eq, grd_t, srun_nil, srun_cons, stepK_grd, fin_ret, sk_mv, sk_take, sk_give, sk_pick, sk_bin, sk_eqB, sk_eqA, sk_load, sk_store, sk_alloc, sk_ext, get_mk, raw_slot, raw_lit, put_some, put_none, wb_nil, ev_mv, ev_take, ev_give, ev_pick, ev_eqB, ev_ext, bin_eql, bin_neq, ev_alloc, ro_int, ro_bool, ro_agg, ro_tup, ro1_int, ro2_int, got_int, got_bool, List.map_cons, List.map_nil, List.getD_cons_zero, List.getD_cons_succ, List.set_cons_zero, List.set_cons_succ, List.getElem?_cons_zero, List.getElem?_cons_succ, List.length_cons, List.length_nil, List.cons_append, List.nil_append, Nat.reduceAdd, true_and, Bool.false_eq_true, Option.map_some, ↓reduceIte, Bool.and_self, Nat.zero_add, reduceCtorEq, Bool.not_false, beq_self_eq_true, Int.reduceBEq, List.length_append, Nat.le_refl]
    first | exact ⟨_, trim1 ho rfl⟩ | exact ⟨_, trim1 ho rfl, rfl⟩ | exact ⟨_, trim1 ho rfl, rfl, rfl⟩ | exact ⟨_, trim1 ho rfl, by simp, rfl⟩ | exact ⟨_, trim1 ho rfl, by simp⟩
  obtain ⟨x1, x2⟩ := fin true (by rw [h2, hw, h3, h4, h7, eg, h6]; rfl)
  simp (maxSteps := 2000000) (disch := first | omega | (simp only [List.length_append, List.length_cons, List.length_nil, List.length_map] <;> omega)) only [nxtM, Mf.cells, s8, e1, h2, h3, h4, h7, ek, z1, z2, h6, u1, u2, u3, u5, nbI, getA0, getA, ev_ldA, List.drop_zero, List.take_succ_cons, List.take_zero, List.append_assoc, List.set_cons_zero, List.set_cons_succ, apO_some, flg_bool, flg_int, flg_agg, exc_bool, exc_int, exc_agg, sk_idxB, swp_seq, swp_reg, swp_skip, swp_cond, seqK_n, condK_f, evK_some, appK_eq, appC_eq, grd_t, srun_nil, srun_cons, stepK_call, stepK_grd, sk_mv, sk_take, sk_give, sk_pick, sk_bin, sk_fld, sk_load, sk_store, sk_lenL, sk_alloc, sk_ext, get_mk, raw_slot, raw_lit, put_some, put_none, wb_nil, ev_mv, ev_take, ev_give, ev_pick, ev_fld, ev_ext, bin_sub, bin_eql, bin_neq, bin_leq, bin_gtr, bin_geq, ev_alloc, ev_ldP, ldP_some, ro_int, ro_bool, ro_agg, ro_tup, ro1_int, ro1_nilS, ro2_int, got_int, got_bool, got_agg, pubs, pubsFrom, List.map_cons, List.map_nil, List.getD_cons_zero, List.getD_cons_succ, List.set_cons_zero, List.set_cons_succ, List.getElem?_cons_zero, List.getElem?_cons_succ, List.length_cons, List.length_nil, List.cons_append, List.nil_append, Nat.reduceAdd, Bool.false_eq_true, Option.map_some, ↓reduceIte, Nat.zero_add, Bool.not_true, ge_iff_le, gt_iff_lt, wrap_i64, List.length_append, Nat.le_refl]
  refine callK_intro (t11 (c := c) (m := nxtM c au false seen dig .nilS []) (nil_ok rfl rfl _) hMf (vk _) hl (oM (nxtM c au false seen dig .nilS []) rfl)) ?_
  rw [x1, x2]
  simp only [if_true]
  simp (maxSteps := 2000000) (disch := first | omega | (simp only [List.length_append, List.length_cons, List.length_nil, List.length_map] <;> omega)) only [Cu.cells, sX, getA, List.append_assoc, List.set_cons_zero, List.set_cons_succ, flg_bool, flg_int, flg_agg, exc_bool, exc_int, grd_s, swp_seq, swp_reg, swp_ret, seqK_n, evK_some, appK_eq, appC_eq, grd_t, srun_nil, srun_cons, stepK_grd, fin_ret, sk_mv, sk_take, sk_give, sk_pick, sk_bin, sk_eqB, sk_fld, sk_load, sk_store, sk_alloc, sk_ext, get_mk, raw_slot, raw_lit, put_some, put_none, wb_nil, ev_mv, ev_take, ev_give, ev_pick, ev_eqB, ev_fld, ev_ext, bin_eql, bin_neq, ev_alloc, ev_ldP, ldP_some, ro_int, ro_bool, ro_agg, ro_tup, ro1_int, ro2_int, got_int, got_bool, List.map_cons, List.map_nil, List.getD_cons_zero, List.getD_cons_succ, List.set_cons_zero, List.set_cons_succ, List.getElem?_cons_zero, List.getElem?_cons_succ, List.length_cons, List.length_nil, List.cons_append, List.nil_append, Nat.reduceAdd, true_and, Bool.false_eq_true, Option.map_some, ↓reduceIte, Nat.zero_add, reduceCtorEq, beq_self_eq_true, bne_self_eq_false, List.length_append]
  first | exact ⟨_, trim1 ho rfl⟩ | exact ⟨_, trim1 ho rfl, rfl⟩ | exact ⟨_, trim1 ho rfl, rfl, rfl⟩ | exact ⟨_, trim1 ho rfl, by simp, rfl⟩ | exact ⟨_, trim1 ho rfl, by simp⟩
end Go.Sh.F
