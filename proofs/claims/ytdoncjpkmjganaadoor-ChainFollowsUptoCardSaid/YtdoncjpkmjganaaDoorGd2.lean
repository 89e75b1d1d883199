/-
  Chains: Next, any pieces; the document's Next, in the shadow machine.
  Chains: Next, any pieces, in the shadow machine.
  Chains: the document's Follow; ChainFollows, in the shadow machine.
-/
import Derived.Test.YtdoncjpkmjganaaDoorGd1
set_option linter.unusedSimpArgs false
set_option linter.unusedVariables false
namespace Go.Sh.F
open Go.PathLaw Go.Proofs
theorem cpPc_ok2 {S base : List Ob} {p : Pc} (h : p.ok S) : (cpPc base.length p).ok (base ++ cpX p) := by
  rcases nil_or p.cv with hn | hn
  · rw [cpPc_nil hn]
    obtain ⟨⟨h1, h2⟩, h3⟩ := h
    refine ⟨?_, h3⟩
    rcases h2 with ⟨_, h4⟩ | ⟨fl, h4, h5⟩ | ⟨id, off, l, h4, _⟩
    · exact ⟨h1, .inl ⟨hn, h4⟩⟩
    · exact ⟨h1, .inr (.inl ⟨fl, h4, h5⟩)⟩
    · rw [hn] at h4; cases h4
  · rw [cpPc_not hn, cpX_not hn]
    refine ⟨⟨by rw [isv_len, Nat.mul_one], .inr (.inr ⟨base.length + 1, 0, isv p.ch, rfl, ?_, ?_, ?_⟩)⟩, h.2⟩
    · rw [getA]; rfl
    · rw [isv_len]; simp
    · rw [List.drop_zero, List.take_of_length_le (by rw [isv_len]; simp)]
theorem cpR_ok2 {S : List Ob} : ∀ (l : List Pc) (base : List Ob), (∀ p ∈ l, p.ok S) → ∀ q ∈ (cpR base.length l).2, q.ok (base ++ (cpR base.length l).1)
  | [], _, _, q, hq => by simp [cpR] at hq
  | p :: r, base, h, q, hq => by
    have ih := cpR_ok2 r (base ++ cpX p) (fun z hz => h z (List.mem_cons_of_mem _ hz))
    rw [List.length_append] at ih
    simp only [cpR] at hq ⊢
    rw [← List.append_assoc]
    rcases List.mem_cons.1 hq with rfl | hq
    · exact (cpPc_ok2 (h p List.mem_cons_self)).mono _
    · exact ih q hq
/-- A copy stays one, whatever stands where it was made from. -/
theorem cp_any {S base : List Ob} {m : Mf} (h : m.ok S) (hn : m.pv ≠ .nilS) (hl : base.length = S.length) (b : List SV) : (cpM S m).ok (base ++ cpB S m b m.ps.length) := by
  rw [cpM_not hn, cpB_all]
  have hk := cpR_len m.ps (S.length + 3)
  refine ⟨⟨?_, .inr (.inr ⟨S.length + 2, 0, (cpR (S.length + 3) m.ps).2.flatMap Pc.cells, ?_, ?_, ?_, ?_⟩)⟩, ?_, ?_⟩
  · exact flat_len (pc_len _)
  · show SV.slo _ _ _ = _; rw [hk]
  · rw [← hl, getA]; rfl
  · rw [Nat.zero_add, flat_len (pc_len _)]; exact Nat.le_refl _
  · rw [List.drop_zero, List.take_of_length_le (by rw [flat_len (pc_len _)]; exact Nat.le_refl _)]
  · show (cpR _ _).2.length ≤ _; rw [hk]; exact h.2.1
  · intro q hq
    have := cpR_ok2 m.ps (base ++ [.cells (cpA S m).cells, .cells b, .cells ((cpR (S.length + 3) m.ps).2.flatMap Pc.cells)]) h.2.2 q
    rw [List.length_append, List.append_assoc, hl] at this
    exact this hq
theorem okSt_set {s : List Ob} {k : Nat} {xs : List SV} (h : okSt s) (hx : idOks s.length xs = true) : okSt (s.set k (.cells xs)) := by
  unfold okSt at *
  rw [List.all_eq_true] at *
  intro o ho
  rw [List.length_set]
  rcases List.mem_or_eq_of_mem_set ho with ho | rfl
  · exact h o ho
  · exact hx
theorem b22 {m : Mf} {st : List Ob} (h1 : m.ok st) (h2 : m.fit) (h3 : okSt st) : O105 22 [.agg m.cells] st (.bool (rightM m)) st := (.inl (.inl (.inl (.inl (.inl (upb (.inr ⟨rfl, rfl, m, h1, h2, h3, rfl, rfl⟩)))))))
theorem b19 {m : Mf} {st : List Ob} (h1 : m.ok st) (h2 : m.fit) (h3 : okSt st) : O105 19 [.agg m.cells] st (.bool (rightM m)) st := (.inl (.inl (.inl (.inl (.inl (upb (.inl (.inr ⟨rfl, rfl, m, h1, h2, h3, rfl, rfl⟩))))))))
theorem b24 {m : Mf} {st : List Ob} (h : m.ok st) (hc : ∀ p ∈ m.ps, p.ch.length ≤ 1048576) (ho : okSt st) : O105 24 [.agg m.cells] st (.agg (cpM st m).cells) (cpS st m) := .inr ⟨rfl, m, h, hc, ho, rfl, rfl, rfl⟩
theorem fn_mf2 {st : List Ob} {m : Mf} {e : Int} {s : S} {res : Nat × Nat} {x : List Ob} (h0 : s.st = st ++ x) (hm : m.ok st) (ho : okSt st) (h : s.get res.1 = .ptr (st.length + 2) 0) (h1 : x[2]? = some (.cells m.cells)) (h2 : s.get res.2 = .int .i64 e) {e' : Int} {m' : Mf} (he : e = e') (hc : m = m') :
    ∃ r st', retOf [.cell res.1 8 true, .tmp res.2] s = some r ∧ Trim st.length s.st st' [r] ∧ (r = .tup [.agg m'.cells, .int .i64 e'] ∧ st' = st) := by
  subst he hc
  refine ⟨.tup [.agg m.cells, .int .i64 e], st, ?_, ?_, rfl, rfl⟩
  · rw [retOf_cell2 (n := 8) (t := res.2) (id := st.length + 2) (l := m.cells) (r := .agg m.cells) h (by rw [h0, getA]; exact h1) rfl (ro_mf hm), h2]
  · rw [h0]; exact trim1 ho (by have := idOks_mf hm; simp only [idOks, idOk, this, Bool.and_self])
/-- What the document's Next tells. -/
def nxtG (c : Cu) (au : Int) (turn : Bool) (pv ph : Int) (v : SV) (ps : List Pc) : Mf := if nxtF c au turn pv ph v ps = 0 then nxtM c au turn pv ph v ps else Mf.none
theorem nxtF_cases {c : Cu} {au : Int} {turn : Bool} {pv ph : Int} {v : SV} {ps : List Pc} :
    (nxtF c au turn pv ph v ps = 2 ∧ (200 ≤ c.ve ∨ 100 < nxtE c turn)) ∨ (c.ve < 200 ∧ nxtE c turn ≤ 100 ∧ nxtF c au turn pv ph v ps = if rightM (nxtM c au turn pv ph v ps) then 0 else 4) := by
  unfold nxtF
  split
  · rename_i h; left; simp at h; exact ⟨rfl, h⟩
  · rename_i h; right; simp at h; exact ⟨by omega, by omega, rfl⟩
set_option maxHeartbeats 16000000 in
set_option maxRecDepth 20000 in
theorem g17 (c : Cu) (hcf : c.fit) (au : Int) (turn : Bool) (pv ph x y : Int) (v : SV) (ps : List Pc) (st : List Ob) (hm : (nxtM c au turn pv ph v ps).ok st) (ho : okSt st) :
    swpF O105 sf17 [.agg c.cells, .int .i64 au, .bool turn, .agg (pc0 pv ph x y), v] st (fun r st' => r = .tup [.agg (nxtG c au turn pv ph v ps).cells, .int .i64 (nxtF c au turn pv ph v ps)] ∧ st' = st) := by
  have mk := fun x => hm.mono x
  have ig := hm.idp 4
  obtain ⟨q1, q2, q3, q4, q6, q7⟩ := hm.1.facts
  have qv := hm.1.cv
  simp only [nxtM] at q1 q2 q3 q4 q6 q7 qv ig
  have sn := fun (w : Ob) => st_aggA (st := st) (l := [.cells [.int .i64 c.ve, .int .i64 c.he, .int .i64 c.ep, .int .i64 c.ak], .cells [.int .i64 pv, .int .i64 ph, .int .i64 x, .int .i64 y], .cells [.int .i64 0, .int .i64 0, .int .i64 0, .int .i64 0, .int .i64 0, .int .i64 0, .int .i64 0, .nilS], w]) (i := 2) (n := 8) (b := true) (xs := [.int .i64 0, .int .i64 0, .int .i64 0, .int .i64 0, .int .i64 0, .int .i64 0, .int .i64 0, .nilS]) rfl rfl rfl rfl rfl
  have s3 := fun (a b : Int) => st_aggA (st := st) (l := [.cells [.int .i64 c.ve, .int .i64 c.he, .int .i64 c.ep, .int .i64 c.ak], .cells [.int .i64 pv, .int .i64 ph, .int .i64 x, .int .i64 y], .cells [.int .i64 0, .int .i64 0, .int .i64 0, .int .i64 0, .int .i64 0, .int .i64 0, .int .i64 0, .nilS], .cells [.int .i64 0, .int .i64 0, .int .i64 0, .int .i64 0, .int .i64 0, .int .i64 0, .int .i64 0, .nilS]]) (i := 3) (n := 8) (b := true) (xs := [.int .i64 au, .int .i64 a, .int .i64 c.he, .int .i64 c.ep, .int .i64 b, .int .i64 pv, .int .i64 ph, v]) rfl (by simp only [List.map_cons, List.map_nil, ro1_int, q6]) (by simp only [List.all_cons, List.all_nil, cell_int, q7, Bool.and_self]) rfl rfl
  have s2 := fun (w : Ob) (a b : Int) => st_aggA (st := st) (l := [.cells [.int .i64 c.ve, .int .i64 c.he, .int .i64 c.ep, .int .i64 c.ak], .cells [.int .i64 pv, .int .i64 ph, .int .i64 x, .int .i64 y], .cells [.int .i64 0, .int .i64 0, .int .i64 0, .int .i64 0, .int .i64 0, .int .i64 0, .int .i64 0, .nilS], w]) (i := 2) (n := 8) (b := true) (xs := [.int .i64 au, .int .i64 a, .int .i64 c.he, .int .i64 c.ep, .int .i64 b, .int .i64 pv, .int .i64 ph, v]) rfl (by simp only [List.map_cons, List.map_nil, ro1_int, q6]) (by simp only [List.all_cons, List.all_nil, cell_int, q7, Bool.and_self]) rfl rfl
  have o4 : ∀ a b : Int, okSt (st ++ [.cells [.int .i64 c.ve, .int .i64 c.he, .int .i64 c.ep, .int .i64 c.ak], .cells [.int .i64 pv, .int .i64 ph, .int .i64 x, .int .i64 y], .cells [.int .i64 0, .int .i64 0, .int .i64 0, .int .i64 0, .int .i64 0, .int .i64 0, .int .i64 0, .nilS], .cells [.int .i64 au, .int .i64 a, .int .i64 c.he, .int .i64 c.ep, .int .i64 b, .int .i64 pv, .int .i64 ph, v]]) := by
    intro a b
    refine okSt_appL ho ?_
    simp only [List.all_cons, List.all_nil, Bool.and_true, obOk, idOks, idOk, List.length_cons, List.length_nil, Nat.zero_add, Bool.true_and]
    exact ig
  obtain ⟨⟨f1, f2⟩, f3, f4⟩ := hcf
  simp only [Cu.cells, pc0]
  cases turn with
  | false =>
    rcases bt (decide (200 ≤ c.ve)) with h1 | h1
    · have e0 : nxtF c au false pv ph v ps = 2 := by
        rcases nxtF_cases (c := c) (au := au) (turn := false) (pv := pv) (ph := ph) (v := v) (ps := ps) with ⟨e, _⟩ | ⟨g1, g2, _⟩
        · exact e
        · exfalso
          simp only [nxtE, if_false, Bool.false_eq_true, decide_eq_true_eq] at *
          omega
      have e2 : nxtG c au false pv ph v ps = Mf.none := by unfold nxtG; rw [if_neg (by rw [e0]; decide)]
      simp (maxSteps := 2000000) (disch := first | omega | (simp only [List.length_append, List.length_cons, List.length_nil, List.length_map] <;> omega)) only [sf17, h1, sn, s3, qv, q1, q2, q3, q7, cv_agg, cv_int, cell_int, getA0, getA, List.append_assoc, Nat.add_zero, List.set_cons_zero, List.set_cons_succ, flg_int, exc_int, exc_agg, grd_s, swp_seq, swp_reg, swp_ret, swp_cond, seqK_n, seqK_r, condK_t, evK_some, appK_eq, grd_t, srun_nil, srun_cons, stepK_grd, swpF_eq, sk_mv, sk_give, sk_pick, sk_bin, sk_fld, sk_load, sk_store, sk_bld, sk_box, sk_alloc, get_mk, raw_slot, raw_lit, put_some, put_none, wb_nil, ev_mv, ev_give, ev_pick, ev_fld, bin_geq, ev_bld, ev_box, ev_alloc, ev_ldP, ldP_some, ro_int, ro_bool, ro1_int, got_int, got_agg, pubs, pubsFrom, List.map_cons, List.map_nil, List.getD_cons_zero, List.getD_cons_succ, List.set_cons_zero, List.set_cons_succ, List.getElem?_cons_zero, List.getElem?_cons_succ, List.length_cons, List.length_nil, List.replicate_succ, List.replicate_zero, List.cons_append, List.nil_append, Nat.reduceAdd, Nat.reduceSub, Nat.reduceLeDiff, and_true, Bool.false_eq_true, Option.map_some, ↓reduceIte, List.all_cons, List.all_nil, Bool.and_self, List.zip_cons_cons, List.zip_nil_right, fillV, wrCells, Nat.zero_add, reduceCtorEq, ge_iff_le, List.length_append, Nat.le_refl]
      exact fn_mf (res := (10, 11)) (m := Mf.none) (e := 2) rfl rfl ho rfl rfl rfl e0.symm e2.symm
      
    rcases bt (decide (100 < c.ep)) with h2 | h2
    · have e0 : nxtF c au false pv ph v ps = 2 := by
        rcases nxtF_cases (c := c) (au := au) (turn := false) (pv := pv) (ph := ph) (v := v) (ps := ps) with ⟨e, _⟩ | ⟨g1, g2, _⟩
        · exact e
        · exfalso
          simp only [nxtE, if_false, Bool.false_eq_true, decide_eq_true_eq] at *
          omega
      have e2 : nxtG c au false pv ph v ps = Mf.none := by unfold nxtG; rw [if_neg (by rw [e0]; decide)]
      simp (maxSteps := 2000000) (disch := first | omega | (simp only [List.length_append, List.length_cons, List.length_nil, List.length_map] <;> omega)) only [sf17, h1, h2, sn, s3, qv, q1, q2, q3, q7, cv_agg, cv_int, cell_int, getA0, getA, List.append_assoc, Nat.add_zero, List.set_cons_zero, List.set_cons_succ, flg_int, exc_int, exc_agg, grd_s, swp_seq, swp_reg, swp_ret, swp_cond, seqK_n, seqK_r, condK_t, evK_some, appK_eq, grd_t, srun_nil, srun_cons, stepK_grd, swpF_eq, sk_mv, sk_give, sk_pick, sk_bin, sk_fld, sk_load, sk_store, sk_bld, sk_box, sk_alloc, get_mk, raw_slot, raw_lit, put_some, put_none, wb_nil, ev_mv, ev_give, ev_pick, ev_fld, bin_gtr, bin_geq, ev_bld, ev_box, ev_alloc, ev_ldP, ldP_some, ro_int, ro_bool, ro1_int, got_int, got_agg, pubs, pubsFrom, List.map_cons, List.map_nil, List.getD_cons_zero, List.getD_cons_succ, List.set_cons_zero, List.set_cons_succ, List.getElem?_cons_zero, List.getElem?_cons_succ, List.length_cons, List.length_nil, List.replicate_succ, List.replicate_zero, List.cons_append, List.nil_append, Nat.reduceAdd, Nat.reduceSub, Nat.reduceLeDiff, and_true, Bool.false_eq_true, Option.map_some, ↓reduceIte, List.all_cons, List.all_nil, Bool.and_self, List.zip_cons_cons, List.zip_nil_right, fillV, wrCells, Nat.zero_add, reduceCtorEq, ge_iff_le, gt_iff_lt, List.length_append, Nat.le_refl]
      exact fn_mf (res := (10, 11)) (m := Mf.none) (e := 2) rfl rfl ho rfl rfl rfl e0.symm e2.symm
      
    have n1 : ¬ 200 ≤ c.ve := by simpa using h1
    have n2 : ¬ 100 < c.ep := by simpa using h2
    rcases nxtF_cases (c := c) (au := au) (turn := false) (pv := pv) (ph := ph) (v := v) (ps := ps) with ⟨_, e0⟩ | ⟨_, _, e0⟩
    · exfalso
      simp only [nxtE, if_false, Bool.false_eq_true] at e0
      omega
    simp (maxSteps := 2000000) (disch := first | omega | (simp only [List.length_append, List.length_cons, List.length_nil, List.length_map] <;> omega)) only [sf17, h1, h2, s3, qv, q1, q2, q3, q6, q7, cv_agg, cv_int, cell_int, getA0, getA, setA, ev_ldA, List.drop_zero, List.take_succ_cons, List.take_zero, List.append_assoc, Nat.add_zero, List.set_cons_zero, List.set_cons_succ, apO_some, flg_int, exc_bool, exc_int, exc_agg, swp_seq, swp_reg, swp_skip, swp_cond, seqK_n, condK_f, evK_some, appK_eq, grd_t, srun_nil, srun_cons, stepK_call, stepK_grd, swpF_eq, sk_mv, sk_take, sk_give, sk_pick, sk_bin, sk_fld, sk_load, sk_store, sk_bld, sk_box, sk_alloc, get_mk, raw_slot, raw_lit, put_some, put_none, wb_nil, ev_mv, ev_take, ev_give, ev_pick, ev_fld, bin_add, bin_gtr, bin_geq, ev_bld, ev_box, ev_alloc, ev_ldP, ldP_some, stP_some, ro_int, ro_bool, ro_agg, ro1_int, got_int, got_bool, got_agg, pubs, pubsFrom, List.map_cons, List.map_nil, List.getD_cons_zero, List.getD_cons_succ, List.set_cons_zero, List.set_cons_succ, List.getElem?_cons_zero, List.getElem?_cons_succ, List.length_cons, List.length_nil, List.replicate_succ, List.replicate_zero, List.cons_append, List.nil_append, Nat.reduceAdd, Nat.reduceSub, Nat.reduceLeDiff, Nat.reduceLT, and_true, Bool.false_eq_true, Option.map_some, ↓reduceIte, List.all_cons, List.all_nil, Bool.and_self, List.zip_cons_cons, List.zip_nil_right, fillV, wrCells, Nat.zero_add, st_int, ge_iff_le, gt_iff_lt, wrap_i64, List.length_append, Nat.le_refl]
    refine callK_intro (b22 (m := nxtM c au false pv ph v ps) (mk _) (by unfold nxtM Mf.fit; simp only; omega) (o4 _ _)) ?_
    rcases bf (rightM (nxtM c au false pv ph v ps)) with h9 | h9
    · rw [h9] at e0 ⊢
      simp only [Bool.false_eq_true, if_false] at e0
      have e2 : nxtG c au false pv ph v ps = Mf.none := by unfold nxtG; rw [if_neg (by rw [e0]; decide)]
      simp (maxSteps := 2000000) (disch := first | omega | (simp only [List.length_append, List.length_cons, List.length_nil, List.length_map] <;> omega)) only [sn, List.set_cons_zero, List.set_cons_succ, flg_bool, flg_int, swp_seq, swp_reg, swp_ret, swp_cond, seqK_n, seqK_r, condK_t, evK_some, appK_eq, appC_eq, srun_nil, srun_cons, sk_mv, sk_give, sk_un, sk_store, sk_bld, get_mk, raw_slot, raw_lit, put_some, put_none, wb_nil, ev_mv, ev_give, ev_not, ev_bld, ro_int, ro_bool, pubs, pubsFrom, List.map_cons, List.map_nil, List.getD_cons_zero, List.getD_cons_succ, List.set_cons_zero, List.set_cons_succ, List.length_nil, Bool.false_eq_true, Option.map_some, ↓reduceIte, List.zip_nil_right, fillV, Bool.not_false]
      exact fn_mf (res := (10, 11)) (m := Mf.none) (e := 4) rfl rfl ho rfl rfl rfl e0.symm e2.symm
    · rw [h9] at e0 ⊢
      simp only [if_true] at e0
      have e2 : nxtG c au false pv ph v ps = nxtM c au false pv ph v ps := by unfold nxtG; rw [if_pos e0]
      simp (maxSteps := 2000000) (disch := first | omega | (simp only [List.length_append, List.length_cons, List.length_nil, List.length_map] <;> omega)) only [s2, q6, getA, ev_ldA, List.drop_zero, List.take_succ_cons, List.take_zero, List.set_cons_zero, List.set_cons_succ, apO_some, flg_bool, flg_int, swp_seq, swp_reg, swp_skip, swp_ret, swp_cond, seqK_n, condK_f, evK_some, appK_eq, appC_eq, srun_nil, srun_cons, sk_mv, sk_give, sk_un, sk_load, sk_store, get_mk, raw_slot, raw_lit, put_some, put_none, wb_nil, ev_mv, ev_give, ev_not, ro_int, ro_bool, ro_agg, ro1_int, List.map_cons, List.map_nil, List.getD_cons_zero, List.getD_cons_succ, List.set_cons_zero, List.set_cons_succ, List.getElem?_cons_zero, List.getElem?_cons_succ, List.length_cons, List.length_nil, Nat.reduceAdd, Bool.false_eq_true, ↓reduceIte, Nat.zero_add, Bool.not_true, Nat.le_refl]
      exact fn_mf2 (res := (10, 11)) (m := nxtM c au false pv ph v ps) (e := 0) rfl hm ho rfl rfl rfl e0.symm e2.symm
    
  | true =>
    rcases bt (decide (200 ≤ c.ve)) with h1 | h1
    · have e0 : nxtF c au true pv ph v ps = 2 := by
        rcases nxtF_cases (c := c) (au := au) (turn := true) (pv := pv) (ph := ph) (v := v) (ps := ps) with ⟨e, _⟩ | ⟨g1, g2, _⟩
        · exact e
        · exfalso
          simp only [nxtE, if_true, decide_eq_true_eq] at *
          omega
      have e2 : nxtG c au true pv ph v ps = Mf.none := by unfold nxtG; rw [if_neg (by rw [e0]; decide)]
      simp (maxSteps := 2000000) (disch := first | omega | (simp only [List.length_append, List.length_cons, List.length_nil, List.length_map] <;> omega)) only [sf17, h1, sn, s3, qv, q1, q2, q3, q7, cv_agg, cv_int, cell_int, getA0, getA, List.append_assoc, Nat.add_zero, List.set_cons_zero, List.set_cons_succ, flg_int, exc_int, exc_agg, grd_s, swp_seq, swp_reg, swp_ret, swp_cond, seqK_n, seqK_r, condK_t, evK_some, appK_eq, grd_t, srun_nil, srun_cons, stepK_grd, swpF_eq, sk_mv, sk_give, sk_pick, sk_bin, sk_fld, sk_load, sk_store, sk_bld, sk_box, sk_alloc, get_mk, raw_slot, raw_lit, put_some, put_none, wb_nil, ev_mv, ev_give, ev_pick, ev_fld, bin_geq, ev_bld, ev_box, ev_alloc, ev_ldP, ldP_some, ro_int, ro_bool, ro1_int, got_int, got_agg, pubs, pubsFrom, List.map_cons, List.map_nil, List.getD_cons_zero, List.getD_cons_succ, List.set_cons_zero, List.set_cons_succ, List.getElem?_cons_zero, List.getElem?_cons_succ, List.length_cons, List.length_nil, List.replicate_succ, List.replicate_zero, List.cons_append, List.nil_append, Nat.reduceAdd, Nat.reduceSub, Nat.reduceLeDiff, and_true, Bool.false_eq_true, Option.map_some, ↓reduceIte, List.all_cons, List.all_nil, Bool.and_self, List.zip_cons_cons, List.zip_nil_right, fillV, wrCells, Nat.zero_add, reduceCtorEq, ge_iff_le, List.length_append, Nat.le_refl]
      exact fn_mf (res := (10, 11)) (m := Mf.none) (e := 2) rfl rfl ho rfl rfl rfl e0.symm e2.symm
      
    rcases bt (decide (100 < c.ep)) with h2 | h2
    · have e0 : nxtF c au true pv ph v ps = 2 := by
        rcases nxtF_cases (c := c) (au := au) (turn := true) (pv := pv) (ph := ph) (v := v) (ps := ps) with ⟨e, _⟩ | ⟨g1, g2, _⟩
        · exact e
        · exfalso
          simp only [nxtE, if_true, decide_eq_true_eq] at *
          omega
      have e2 : nxtG c au true pv ph v ps = Mf.none := by unfold nxtG; rw [if_neg (by rw [e0]; decide)]
      simp (maxSteps := 2000000) (disch := first | omega | (simp only [List.length_append, List.length_cons, List.length_nil, List.length_map] <;> omega)) only [sf17, h1, h2, sn, s3, qv, q1, q2, q3, q7, cv_agg, cv_int, cell_int, getA0, getA, List.append_assoc, Nat.add_zero, List.set_cons_zero, List.set_cons_succ, flg_int, exc_int, exc_agg, grd_s, swp_seq, swp_reg, swp_ret, swp_cond, seqK_n, seqK_r, condK_t, evK_some, appK_eq, grd_t, srun_nil, srun_cons, stepK_grd, swpF_eq, sk_mv, sk_give, sk_pick, sk_bin, sk_fld, sk_load, sk_store, sk_bld, sk_box, sk_alloc, get_mk, raw_slot, raw_lit, put_some, put_none, wb_nil, ev_mv, ev_give, ev_pick, ev_fld, bin_gtr, bin_geq, ev_bld, ev_box, ev_alloc, ev_ldP, ldP_some, ro_int, ro_bool, ro1_int, got_int, got_agg, pubs, pubsFrom, List.map_cons, List.map_nil, List.getD_cons_zero, List.getD_cons_succ, List.set_cons_zero, List.set_cons_succ, List.getElem?_cons_zero, List.getElem?_cons_succ, List.length_cons, List.length_nil, List.replicate_succ, List.replicate_zero, List.cons_append, List.nil_append, Nat.reduceAdd, Nat.reduceSub, Nat.reduceLeDiff, and_true, Bool.false_eq_true, Option.map_some, ↓reduceIte, List.all_cons, List.all_nil, Bool.and_self, List.zip_cons_cons, List.zip_nil_right, fillV, wrCells, Nat.zero_add, reduceCtorEq, ge_iff_le, gt_iff_lt, List.length_append, Nat.le_refl]
      exact fn_mf (res := (10, 11)) (m := Mf.none) (e := 2) rfl rfl ho rfl rfl rfl e0.symm e2.symm
      
    rcases bt (decide (100 ≤ c.ep)) with h3 | h3
    · have e0 : nxtF c au true pv ph v ps = 2 := by
        rcases nxtF_cases (c := c) (au := au) (turn := true) (pv := pv) (ph := ph) (v := v) (ps := ps) with ⟨e, _⟩ | ⟨g1, g2, _⟩
        · exact e
        · exfalso
          simp only [nxtE, if_true, decide_eq_true_eq] at *
          omega
      have e2 : nxtG c au true pv ph v ps = Mf.none := by unfold nxtG; rw [if_neg (by rw [e0]; decide)]
      simp (maxSteps := 2000000) (disch := first | omega | (simp only [List.length_append, List.length_cons, List.length_nil, List.length_map] <;> omega)) only [sf17, h1, h2, h3, sn, s3, qv, q1, q2, q3, q7, cv_agg, cv_int, cell_int, getA0, getA, List.append_assoc, Nat.add_zero, List.set_cons_zero, List.set_cons_succ, flg_int, exc_bool, exc_int, exc_agg, swp_seq, swp_reg, swp_ret, swp_cond, seqK_n, seqK_r, condK_t, evK_some, appK_eq, grd_t, srun_nil, srun_cons, stepK_grd, swpF_eq, sk_mv, sk_take, sk_give, sk_pick, sk_bin, sk_fld, sk_load, sk_store, sk_bld, sk_box, sk_alloc, get_mk, raw_slot, raw_lit, put_some, put_none, wb_nil, ev_mv, ev_take, ev_give, ev_pick, ev_fld, bin_gtr, bin_geq, ev_bld, ev_box, ev_alloc, ev_ldP, ldP_some, ro_int, ro_bool, ro1_int, got_int, got_bool, got_agg, pubs, pubsFrom, List.map_cons, List.map_nil, List.getD_cons_zero, List.getD_cons_succ, List.set_cons_zero, List.set_cons_succ, List.getElem?_cons_zero, List.getElem?_cons_succ, List.length_cons, List.length_nil, List.replicate_succ, List.replicate_zero, List.cons_append, List.nil_append, Nat.reduceAdd, Nat.reduceSub, Nat.reduceLeDiff, and_true, Bool.false_eq_true, Option.map_some, ↓reduceIte, List.all_cons, List.all_nil, Bool.and_self, List.zip_cons_cons, List.zip_nil_right, fillV, wrCells, Nat.zero_add, ge_iff_le, gt_iff_lt, List.length_append, Nat.le_refl]
      exact fn_mf (res := (10, 11)) (m := Mf.none) (e := 2) rfl rfl ho rfl rfl rfl e0.symm e2.symm
      
    have n1 : ¬ 200 ≤ c.ve := by simpa using h1
    have n2 : ¬ 100 < c.ep := by simpa using h2
    have n3 : ¬ 100 ≤ c.ep := by simpa using h3
    rcases nxtF_cases (c := c) (au := au) (turn := true) (pv := pv) (ph := ph) (v := v) (ps := ps) with ⟨_, e0⟩ | ⟨_, _, e0⟩
    · exfalso
      simp only [nxtE, if_true] at e0
      omega
    simp (maxSteps := 2000000) (disch := first | omega | (simp only [List.length_append, List.length_cons, List.length_nil, List.length_map] <;> omega)) only [sf17, h1, h2, h3, s3, qv, q1, q2, q3, q6, q7, cv_agg, cv_int, cell_int, getA0, getA, setA, ev_ldA, List.drop_zero, List.take_succ_cons, List.take_zero, List.append_assoc, Nat.add_zero, List.set_cons_zero, List.set_cons_succ, apO_some, flg_int, exc_bool, exc_int, exc_agg, swp_seq, swp_reg, swp_skip, swp_cond, seqK_n, condK_t, condK_f, evK_some, appK_eq, grd_t, srun_nil, srun_cons, stepK_call, stepK_grd, swpF_eq, sk_mv, sk_take, sk_give, sk_pick, sk_bin, sk_fld, sk_load, sk_store, sk_bld, sk_box, sk_alloc, get_mk, raw_slot, raw_lit, put_some, put_none, wb_nil, ev_mv, ev_take, ev_give, ev_pick, ev_fld, bin_add, bin_gtr, bin_geq, ev_bld, ev_box, ev_alloc, ev_ldP, ldP_some, stP_some, ro_int, ro_bool, ro_agg, ro1_int, got_int, got_bool, got_agg, pubs, pubsFrom, List.map_cons, List.map_nil, List.getD_cons_zero, List.getD_cons_succ, List.set_cons_zero, List.set_cons_succ, List.getElem?_cons_zero, List.getElem?_cons_succ, List.length_cons, List.length_nil, List.replicate_succ, List.replicate_zero, List.cons_append, List.nil_append, Nat.reduceAdd, Nat.reduceSub, Nat.reduceLeDiff, Nat.reduceLT, and_true, Bool.false_eq_true, Option.map_some, ↓reduceIte, List.all_cons, List.all_nil, Bool.and_self, List.zip_cons_cons, List.zip_nil_right, fillV, wrCells, Nat.zero_add, st_int, ge_iff_le, gt_iff_lt, wrap_i64, List.length_append, Nat.le_refl]
    refine callK_intro (b22 (m := nxtM c au true pv ph v ps) (mk _) (by unfold nxtM Mf.fit; simp only; omega) (o4 _ _)) ?_
    rcases bf (rightM (nxtM c au true pv ph v ps)) with h9 | h9
    · rw [h9] at e0 ⊢
      simp only [Bool.false_eq_true, if_false] at e0
      have e2 : nxtG c au true pv ph v ps = Mf.none := by unfold nxtG; rw [if_neg (by rw [e0]; decide)]
      simp (maxSteps := 2000000) (disch := first | omega | (simp only [List.length_append, List.length_cons, List.length_nil, List.length_map] <;> omega)) only [sn, List.set_cons_zero, List.set_cons_succ, flg_bool, flg_int, swp_seq, swp_reg, swp_ret, swp_cond, seqK_n, seqK_r, condK_t, evK_some, appK_eq, appC_eq, srun_nil, srun_cons, sk_mv, sk_give, sk_un, sk_store, sk_bld, get_mk, raw_slot, raw_lit, put_some, put_none, wb_nil, ev_mv, ev_give, ev_not, ev_bld, ro_int, ro_bool, pubs, pubsFrom, List.map_cons, List.map_nil, List.getD_cons_zero, List.getD_cons_succ, List.set_cons_zero, List.set_cons_succ, List.length_nil, Bool.false_eq_true, Option.map_some, ↓reduceIte, List.zip_nil_right, fillV, Bool.not_false]
      exact fn_mf (res := (10, 11)) (m := Mf.none) (e := 4) rfl rfl ho rfl rfl rfl e0.symm e2.symm
    · rw [h9] at e0 ⊢
      simp only [if_true] at e0
      have e2 : nxtG c au true pv ph v ps = nxtM c au true pv ph v ps := by unfold nxtG; rw [if_pos e0]
      simp (maxSteps := 2000000) (disch := first | omega | (simp only [List.length_append, List.length_cons, List.length_nil, List.length_map] <;> omega)) only [s2, q6, getA, ev_ldA, List.drop_zero, List.take_succ_cons, List.take_zero, List.set_cons_zero, List.set_cons_succ, apO_some, flg_bool, flg_int, swp_seq, swp_reg, swp_skip, swp_ret, swp_cond, seqK_n, condK_f, evK_some, appK_eq, appC_eq, srun_nil, srun_cons, sk_mv, sk_give, sk_un, sk_load, sk_store, get_mk, raw_slot, raw_lit, put_some, put_none, wb_nil, ev_mv, ev_give, ev_not, ro_int, ro_bool, ro_agg, ro1_int, List.map_cons, List.map_nil, List.getD_cons_zero, List.getD_cons_succ, List.set_cons_zero, List.set_cons_succ, List.getElem?_cons_zero, List.getElem?_cons_succ, List.length_cons, List.length_nil, Nat.reduceAdd, Bool.false_eq_true, ↓reduceIte, Nat.zero_add, Bool.not_true, Nat.le_refl]
      exact fn_mf2 (res := (10, 11)) (m := nxtM c au true pv ph v ps) (e := 0) rfl hm ho rfl rfl rfl e0.symm e2.symm
    
def KNextR : List Ob → List SV → SV → Prop := fun st args r => ∃ (c : Cu) (au : Int) (turn : Bool) (pv ph x y : Int) (v : SV) (ps : List Pc), c.fit ∧ (nxtM c au turn pv ph v ps).ok st ∧ okSt st ∧ args = [.agg c.cells, .int .i64 au, .bool turn, .agg (pc0 pv ph x y), v] ∧ r = .tup [.agg (nxtG c au turn pv ph v ps).cells, .int .i64 (nxtF c au turn pv ph v ps)]
def O106 : Orc := O105.add 17 (StC KNextR)
theorem s106 : Sound Tryd.prog O106 := s105.addS c17 (by kernel_rfl) (by
  rintro args r st ⟨c, au, turn, pv, ph, x, y, v, ps, hcf, hm, ho, rfl, rfl⟩
  exact ⟨by simp [sf17], g17 c hcf au turn pv ph x y v ps st hm ho⟩)
end Go.Sh.F
namespace Go.Sh.F
open Go.PathLaw Go.Proofs
theorem cpM_fit {st : List Ob} {m : Mf} (h : m.fit) : (cpM st m).fit := by
  rcases nil_or m.pv with hn | hn
  · rw [cpM_nil hn]; exact h
  · rw [cpM_not hn]; exact h
theorem cpM_right (st : List Ob) (m : Mf) : rightM (cpM st m) = rightM m := by rw [← rightM_pl, cpM_pl, rightM_pl]
theorem none_pl : Mf.none.pl = Mf.none := rfl
set_option maxHeartbeats 16000000 in
set_option maxRecDepth 20000 in
theorem next_run (c : Cu) (hcf : c.fit) (au : Int) (turn : Bool) (pv ph x y : Int) (v : SV) (ps : List Pc) (st : List Ob) (hm : (nxtM c au turn pv ph v ps).ok st) (hc : ∀ p ∈ ps, p.ch.length ≤ 1048576) (hn : v ≠ .nilS) (ho : okSt st) :
    ∃ (M : Mf) (X : List Ob), swpF O106 sf16 [.agg c.cells, .int .i64 au, .bool turn, .agg (pc0 pv ph x y), v] st (fun r st' => r = .tup [.agg M.cells, .int .i64 (nxtF c au turn pv ph v ps)] ∧ st' = st ++ X) ∧ M.ok (st ++ X) ∧ okSt (st ++ X) ∧ M.pl = (nxtG c au turn pv ph v ps).pl := by
  have mk := fun x => hm.mono x
  have ig := hm.idp 3
  obtain ⟨q1, q2, q3, q4, q6, q7⟩ := hm.1.facts
  have qv := hm.1.cv
  simp only [nxtM] at q1 q2 q3 q4 q6 q7 qv ig
  have sn := st_aggA (st := st) (l := [.cells [.int .i64 c.ve, .int .i64 c.he, .int .i64 c.ep, .int .i64 c.ak], .cells [.int .i64 pv, .int .i64 ph, .int .i64 x, .int .i64 y], .cells [.int .i64 0, .int .i64 0, .int .i64 0, .int .i64 0, .int .i64 0, .int .i64 0, .int .i64 0, .nilS]]) (i := 2) (n := 8) (b := true) (xs := [.int .i64 0, .int .i64 0, .int .i64 0, .int .i64 0, .int .i64 0, .int .i64 0, .int .i64 0, .nilS]) rfl rfl rfl rfl rfl
  have o3 : okSt (st ++ [.cells [.int .i64 c.ve, .int .i64 c.he, .int .i64 c.ep, .int .i64 c.ak], .cells [.int .i64 pv, .int .i64 ph, .int .i64 x, .int .i64 y], .cells [.int .i64 0, .int .i64 0, .int .i64 0, .int .i64 0, .int .i64 0, .int .i64 0, .int .i64 0, .nilS]]) := okSt_appL ho rfl
  have hcf0 := hcf
  obtain ⟨⟨f1, f2⟩, f3, f4⟩ := hcf
  simp only [Cu.cells, pc0]
  cases turn with
  | false =>
    rcases bt (decide (200 ≤ c.ve)) with h1 | h1
    · have e0 : nxtF c au false pv ph v ps = 2 := by
        rcases nxtF_cases (c := c) (au := au) (turn := false) (pv := pv) (ph := ph) (v := v) (ps := ps) with ⟨e, _⟩ | ⟨g1, g2, _⟩
        · exact e
        · exfalso
          simp only [nxtE, if_false, Bool.false_eq_true, decide_eq_true_eq] at *
          omega
      have e2 : nxtG c au false pv ph v ps = Mf.none := by unfold nxtG; rw [if_neg (by rw [e0]; decide)]
      refine ⟨Mf.none, [], ?_, by rw [List.append_nil]; exact Mf.none_ok st, by rw [List.append_nil]; exact ho, by rw [e2]⟩
      rw [List.append_nil, e0]
      simp (maxSteps := 2000000) (disch := first | omega | (simp only [List.length_append, List.length_cons, List.length_nil, List.length_map] <;> omega)) only [sf16, h1, sn, cv_agg, cell_int, getA0, List.append_assoc, Nat.add_zero, List.set_cons_zero, List.set_cons_succ, flg_int, exc_agg, swp_seq, swp_reg, swp_skip, swp_ret, swp_cond, seqK_n, seqK_r, condK_t, condK_f, evK_some, appK_eq, grd_t, srun_nil, srun_cons, stepK_grd, swpF_eq, sk_mv, sk_give, sk_pick, sk_bin, sk_fld, sk_load, sk_store, sk_bld, sk_box, sk_alloc, get_mk, raw_slot, raw_lit, put_some, put_none, wb_nil, ev_mv, ev_give, ev_pick, ev_fld, bin_geq, ev_bld, ev_box, ev_alloc, ev_ldP, ldP_some, ro_int, ro_bool, ro1_int, got_agg, pubs, pubsFrom, List.map_cons, List.map_nil, List.getD_cons_zero, List.getD_cons_succ, List.set_cons_zero, List.set_cons_succ, List.getElem?_cons_zero, List.getElem?_cons_succ, List.length_cons, List.length_nil, List.replicate_succ, List.replicate_zero, List.cons_append, List.nil_append, Nat.reduceAdd, Nat.reduceSub, Bool.false_eq_true, Option.map_some, ↓reduceIte, List.all_cons, List.all_nil, Bool.and_self, List.zip_nil_right, fillV, Nat.zero_add, reduceCtorEq, ge_iff_le, List.length_append]
      exact fn_mf (res := (10, 11)) (m := Mf.none) (e := 2) rfl rfl ho rfl rfl rfl rfl rfl
      
    rcases bt (decide (100 < c.ep)) with h2 | h2
    · have e0 : nxtF c au false pv ph v ps = 2 := by
        rcases nxtF_cases (c := c) (au := au) (turn := false) (pv := pv) (ph := ph) (v := v) (ps := ps) with ⟨e, _⟩ | ⟨g1, g2, _⟩
        · exact e
        · exfalso
          simp only [nxtE, if_false, Bool.false_eq_true, decide_eq_true_eq, decide_eq_false_iff_not] at *
          omega
      have e2 : nxtG c au false pv ph v ps = Mf.none := by unfold nxtG; rw [if_neg (by rw [e0]; decide)]
      refine ⟨Mf.none, [], ?_, by rw [List.append_nil]; exact Mf.none_ok st, by rw [List.append_nil]; exact ho, by rw [e2]⟩
      rw [List.append_nil, e0]
      simp (maxSteps := 2000000) (disch := first | omega | (simp only [List.length_append, List.length_cons, List.length_nil, List.length_map] <;> omega)) only [sf16, h1, h2, sn, cv_agg, cell_int, getA0, List.append_assoc, Nat.add_zero, List.set_cons_zero, List.set_cons_succ, flg_int, exc_int, exc_agg, swp_seq, swp_reg, swp_skip, swp_ret, swp_cond, seqK_n, seqK_r, condK_t, condK_f, evK_some, appK_eq, grd_t, srun_nil, srun_cons, stepK_grd, swpF_eq, sk_mv, sk_take, sk_give, sk_pick, sk_bin, sk_fld, sk_load, sk_store, sk_bld, sk_box, sk_alloc, get_mk, raw_slot, raw_lit, put_some, put_none, wb_nil, ev_mv, ev_take, ev_give, ev_pick, ev_fld, bin_gtr, bin_geq, ev_bld, ev_box, ev_alloc, ev_ldP, ldP_some, ro_int, ro_bool, ro1_int, got_int, got_agg, pubs, pubsFrom, List.map_cons, List.map_nil, List.getD_cons_zero, List.getD_cons_succ, List.set_cons_zero, List.set_cons_succ, List.getElem?_cons_zero, List.getElem?_cons_succ, List.length_cons, List.length_nil, List.replicate_succ, List.replicate_zero, List.cons_append, List.nil_append, Nat.reduceAdd, Nat.reduceSub, Bool.false_eq_true, Option.map_some, ↓reduceIte, List.all_cons, List.all_nil, Bool.and_self, List.zip_nil_right, fillV, Nat.zero_add, ge_iff_le, gt_iff_lt, List.length_append]
      exact fn_mf (res := (10, 11)) (m := Mf.none) (e := 2) rfl rfl ho rfl rfl rfl rfl rfl
      
    have n1 : ¬ 200 ≤ c.ve := by simpa using h1
    have n2 : ¬ 100 < c.ep := by simpa using h2
    rcases nxtF_cases (c := c) (au := au) (turn := false) (pv := pv) (ph := ph) (v := v) (ps := ps) with ⟨_, e0⟩ | ⟨_, _, e0⟩
    · exfalso
      simp only [nxtE, if_false, Bool.false_eq_true] at e0
      omega
    have hS := mk [Ob.cells [.int .i64 c.ve, .int .i64 c.he, .int .i64 c.ep, .int .i64 c.ak], .cells [.int .i64 pv, .int .i64 ph, .int .i64 x, .int .i64 y], .cells [.int .i64 0, .int .i64 0, .int .i64 0, .int .i64 0, .int .i64 0, .int .i64 0, .int .i64 0, .nilS]]
    obtain ⟨m0, em0⟩ : ∃ m0, nxtM c au false pv ph v ps = m0 := ⟨_, rfl⟩
    have e45 : SV.agg m0.cells = .agg [.int .i64 au, .int .i64 (c.ve + 1), .int .i64 c.he, .int .i64 c.ep, .int .i64 c.ep, .int .i64 pv, .int .i64 ph, v] := by rw [← em0]; rfl
    have hps : m0.ps = ps := by rw [← em0]; rfl
    have hpv : m0.pv ≠ .nilS := by rw [← em0]; exact hn
    have hfit : m0.fit := by rw [← em0]; unfold nxtM Mf.fit; simp only; omega
    rw [em0] at hS e0
    have k24 := b24 hS (by rw [hps]; exact hc) o3
    have hl3 : (st ++ [Ob.cells [.int .i64 c.ve, .int .i64 c.he, .int .i64 c.ep, .int .i64 c.ak], .cells [.int .i64 pv, .int .i64 ph, .int .i64 x, .int .i64 y], .cells [.int .i64 0, .int .i64 0, .int .i64 0, .int .i64 0, .int .i64 0, .int .i64 0, .int .i64 0, .nilS]]).length = st.length + 3 := by rw [List.length_append]; rfl
    have hMok := cpM_ok hS
    have hMst := cpS_okSt hS o3
    have hany := fun (base : List Ob) (hl : base.length = (st ++ [Ob.cells [.int .i64 c.ve, .int .i64 c.he, .int .i64 c.ep, .int .i64 c.ak], .cells [.int .i64 pv, .int .i64 ph, .int .i64 x, .int .i64 y], .cells [.int .i64 0, .int .i64 0, .int .i64 0, .int .i64 0, .int .i64 0, .int .i64 0, .int .i64 0, .nilS]]).length) => cp_any hS hpv hl (cpA (st ++ [Ob.cells [.int .i64 c.ve, .int .i64 c.he, .int .i64 c.ep, .int .i64 c.ak], .cells [.int .i64 pv, .int .i64 ph, .int .i64 x, .int .i64 y], .cells [.int .i64 0, .int .i64 0, .int .i64 0, .int .i64 0, .int .i64 0, .int .i64 0, .int .i64 0, .nilS]]) m0).cells
    rw [cpS_not hpv] at hMok hMst k24
    obtain ⟨B, eB⟩ : ∃ B, cpB (st ++ [Ob.cells [.int .i64 c.ve, .int .i64 c.he, .int .i64 c.ep, .int .i64 c.ak], .cells [.int .i64 pv, .int .i64 ph, .int .i64 x, .int .i64 y], .cells [.int .i64 0, .int .i64 0, .int .i64 0, .int .i64 0, .int .i64 0, .int .i64 0, .int .i64 0, .nilS]]) m0 (cpA (st ++ [Ob.cells [.int .i64 c.ve, .int .i64 c.he, .int .i64 c.ep, .int .i64 c.ak], .cells [.int .i64 pv, .int .i64 ph, .int .i64 x, .int .i64 y], .cells [.int .i64 0, .int .i64 0, .int .i64 0, .int .i64 0, .int .i64 0, .int .i64 0, .int .i64 0, .nilS]]) m0).cells m0.ps.length = B := ⟨_, rfl⟩
    obtain ⟨M, eM⟩ : ∃ M, cpM (st ++ [Ob.cells [.int .i64 c.ve, .int .i64 c.he, .int .i64 c.ep, .int .i64 c.ak], .cells [.int .i64 pv, .int .i64 ph, .int .i64 x, .int .i64 y], .cells [.int .i64 0, .int .i64 0, .int .i64 0, .int .i64 0, .int .i64 0, .int .i64 0, .int .i64 0, .nilS]]) m0 = M := ⟨_, rfl⟩
    have hMfit : M.fit := by rw [← eM]; exact cpM_fit hfit
    have hMr : rightM M = rightM m0 := by rw [← eM]; exact cpM_right _ _
    have hMp : M.pl = m0.pl := by rw [← eM]; exact cpM_pl _ _
    rw [eB, eM] at hMok k24
    rw [eB] at hMst
    have eapp : ∀ z : List Ob, st ++ [.cells [.int .i64 c.ve, .int .i64 c.he, .int .i64 c.ep, .int .i64 c.ak], .cells [.int .i64 pv, .int .i64 ph, .int .i64 x, .int .i64 y], .cells [.int .i64 0, .int .i64 0, .int .i64 0, .int .i64 0, .int .i64 0, .int .i64 0, .int .i64 0, .nilS]] ++ z = st ++ (.cells [.int .i64 c.ve, .int .i64 c.he, .int .i64 c.ep, .int .i64 c.ak] :: .cells [.int .i64 pv, .int .i64 ph, .int .i64 x, .int .i64 y] :: .cells [.int .i64 0, .int .i64 0, .int .i64 0, .int .i64 0, .int .i64 0, .int .i64 0, .int .i64 0, .nilS] :: z) := by intro z; simp
    rw [eapp] at hMok hMst k24
    have m1 := ro1_mf hMok
    have mlen : M.cells.length = 8 := rfl
    have mtake : M.cells.take 8 = M.cells := rfl
    have s8 := st_aggA (st := st) (l := .cells [.int .i64 c.ve, .int .i64 c.he, .int .i64 c.ep, .int .i64 c.ak] :: .cells [.int .i64 pv, .int .i64 ph, .int .i64 x, .int .i64 y] :: .cells [.int .i64 0, .int .i64 0, .int .i64 0, .int .i64 0, .int .i64 0, .int .i64 0, .int .i64 0, .nilS] :: (B ++ [.cells [.int .i64 0, .int .i64 0, .int .i64 0, .int .i64 0, .int .i64 0, .int .i64 0, .int .i64 0, .nilS]])) (i := B.length + 1 + 1 + 1) (n := 8) (b := true) (xs := M.cells) (c := [.int .i64 0, .int .i64 0, .int .i64 0, .int .i64 0, .int .i64 0, .int .i64 0, .int .i64 0, .nilS]) (by simp) m1 (cell_mf hMok) rfl rfl
    simp only [List.set_cons_succ, set_end'] at s8
    have hMok2 : M.ok (st ++ (.cells [.int .i64 c.ve, .int .i64 c.he, .int .i64 c.ep, .int .i64 c.ak] :: .cells [.int .i64 pv, .int .i64 ph, .int .i64 x, .int .i64 y] :: .cells [.int .i64 0, .int .i64 0, .int .i64 0, .int .i64 0, .int .i64 0, .int .i64 0, .int .i64 0, .nilS] :: (B ++ [.cells M.cells]))) := by
      have := hMok.mono [.cells M.cells]
      simpa only [List.append_assoc, List.cons_append] using this
    have hMst2 : okSt (st ++ (.cells [.int .i64 c.ve, .int .i64 c.he, .int .i64 c.ep, .int .i64 c.ak] :: .cells [.int .i64 pv, .int .i64 ph, .int .i64 x, .int .i64 y] :: .cells [.int .i64 0, .int .i64 0, .int .i64 0, .int .i64 0, .int .i64 0, .int .i64 0, .int .i64 0, .nilS] :: (B ++ [.cells M.cells]))) := by
      have := okM hMok hMst
      simpa only [List.append_assoc, List.cons_append] using this
    have sT := st_aggA (st := st) (l := .cells [.int .i64 c.ve, .int .i64 c.he, .int .i64 c.ep, .int .i64 c.ak] :: .cells [.int .i64 pv, .int .i64 ph, .int .i64 x, .int .i64 y] :: .cells [.int .i64 0, .int .i64 0, .int .i64 0, .int .i64 0, .int .i64 0, .int .i64 0, .int .i64 0, .nilS] :: (B ++ [.cells M.cells])) (i := 2) (n := 8) (b := true) (xs := M.cells) (c := [.int .i64 0, .int .i64 0, .int .i64 0, .int .i64 0, .int .i64 0, .int .i64 0, .int .i64 0, .nilS]) rfl m1 (cell_mf hMok) rfl rfl
    have sF := st_aggA (st := st) (l := .cells [.int .i64 c.ve, .int .i64 c.he, .int .i64 c.ep, .int .i64 c.ak] :: .cells [.int .i64 pv, .int .i64 ph, .int .i64 x, .int .i64 y] :: .cells [.int .i64 0, .int .i64 0, .int .i64 0, .int .i64 0, .int .i64 0, .int .i64 0, .int .i64 0, .nilS] :: (B ++ [.cells M.cells])) (i := 2) (n := 8) (b := true) (xs := [.int .i64 0, .int .i64 0, .int .i64 0, .int .i64 0, .int .i64 0, .int .i64 0, .int .i64 0, .nilS]) (c := [.int .i64 0, .int .i64 0, .int .i64 0, .int .i64 0, .int .i64 0, .int .i64 0, .int .i64 0, .nilS]) rfl rfl rfl rfl rfl
    rcases bf (rightM m0) with h9 | h9
    · rw [h9] at e0
      simp only [Bool.false_eq_true, if_false] at e0
      have e2 : nxtG c au false pv ph v ps = Mf.none := by unfold nxtG; rw [if_neg (by rw [e0]; decide)]
      refine ⟨Mf.none, [], ?_, by rw [List.append_nil]; exact Mf.none_ok st, by rw [List.append_nil]; exact ho, by rw [e2]⟩
      rw [List.append_nil, e0]
      simp (maxSteps := 2000000) (disch := first | omega | (simp only [List.length_append, List.length_cons, List.length_nil, List.length_map] <;> omega)) only [sf16, h1, h2, qv, q1, q2, q3, q6, q7, cv_agg, cv_int, cell_int, getA0, getA, List.append_assoc, Nat.add_zero, List.set_cons_zero, List.set_cons_succ, flg_int, exc_int, exc_agg, swp_seq, swp_reg, swp_skip, swp_cond, seqK_n, condK_f, evK_some, appK_eq, grd_t, srun_nil, srun_cons, stepK_call, stepK_grd, swpF_eq, sk_mv, sk_take, sk_give, sk_pick, sk_bin, sk_fld, sk_load, sk_bld, sk_box, sk_alloc, get_mk, raw_slot, raw_lit, put_some, wb_nil, ev_mv, ev_take, ev_give, ev_pick, ev_fld, bin_add, bin_gtr, bin_geq, ev_bld, ev_box, ev_alloc, ev_ldP, ldP_some, ro_int, ro_bool, ro1_int, got_int, got_agg, pubs, pubsFrom, List.map_cons, List.map_nil, List.getD_cons_zero, List.getD_cons_succ, List.set_cons_zero, List.set_cons_succ, List.getElem?_cons_zero, List.getElem?_cons_succ, List.length_cons, List.length_nil, List.replicate_succ, List.replicate_zero, List.cons_append, List.nil_append, Nat.reduceAdd, Nat.reduceSub, Nat.reduceLeDiff, and_true, Bool.false_eq_true, Option.map_some, ↓reduceIte, List.all_cons, List.all_nil, Bool.and_self, List.zip_cons_cons, List.zip_nil_right, fillV, wrCells, Nat.zero_add, ge_iff_le, gt_iff_lt, wrap_i64, List.length_append, Nat.le_refl]
      rw [← e45]
      refine callK_intro (.inl k24) ?_
      simp (maxSteps := 2000000) (disch := first | omega | (simp only [List.length_append, List.length_cons, List.length_nil, List.length_map] <;> omega)) only [s8, getA0, getA, ev_ldA, List.drop_zero, List.append_assoc, List.set_cons_zero, List.set_cons_succ, apO_some, swp_seq, swp_reg, seqK_n, evK_some, appK_eq, appC_eq, srun_nil, srun_cons, sk_load, sk_store, sk_alloc, get_mk, raw_slot, put_some, put_none, wb_nil, ev_alloc, ro_agg, List.map_cons, List.map_nil, List.getD_cons_zero, List.getD_cons_succ, List.set_cons_zero, List.set_cons_succ, List.getElem?_cons_zero, List.getElem?_cons_succ, List.length_cons, List.cons_append, Nat.zero_add, List.length_append]
      simp (maxSteps := 2000000) (disch := first | omega | (simp only [List.length_append, List.length_cons, List.length_nil, List.length_map] <;> omega)) only [mlen, mtake, m1, List.set_cons_zero, List.set_cons_succ, exc_agg, evK_some, appK_eq, srun_cons, stepK_call, get_mk, raw_slot, put_some, wb_nil, got_agg, pubs, pubsFrom, List.map_cons, List.map_nil, List.getD_cons_zero, List.getD_cons_succ, List.set_cons_zero, List.set_cons_succ, Bool.false_eq_true, ↓reduceIte, Nat.le_refl]
      refine callK_intro (.inl (b19 hMok2 hMfit hMst2)) ?_
      rw [hMr, h9]
      simp (maxSteps := 2000000) (disch := first | omega | (simp only [List.length_append, List.length_cons, List.length_nil, List.length_map] <;> omega)) only [sF, List.set_cons_zero, List.set_cons_succ, flg_int, swp_seq, swp_reg, swp_ret, swp_cond, seqK_n, seqK_r, condK_t, evK_some, appK_eq, appC_eq, srun_nil, srun_cons, sk_give, sk_un, sk_store, sk_bld, get_mk, raw_slot, raw_lit, put_some, put_none, wb_nil, ev_give, ev_not, ev_bld, ro_int, pubs, pubsFrom, List.map_cons, List.map_nil, List.getD_cons_zero, List.getD_cons_succ, List.set_cons_zero, List.set_cons_succ, List.length_nil, Bool.false_eq_true, Option.map_some, ↓reduceIte, List.zip_nil_right, fillV, Bool.not_false]
      exact fn_mf (res := (10, 11)) (m := Mf.none) (e := 4) rfl rfl ho rfl rfl rfl rfl rfl
    · rw [h9] at e0
      simp only [if_true] at e0
      have e2 : nxtG c au false pv ph v ps = m0 := by unfold nxtG; rw [if_pos e0, em0]
      have hfin : M.ok (st ++ (.cells [.int .i64 c.ve, .int .i64 c.he, .int .i64 c.ep, .int .i64 c.ak] :: .cells [.int .i64 pv, .int .i64 ph, .int .i64 x, .int .i64 y] :: .cells M.cells :: (B ++ [.cells M.cells]))) := by
        have := (hany (st ++ [.cells [.int .i64 c.ve, .int .i64 c.he, .int .i64 c.ep, .int .i64 c.ak], .cells [.int .i64 pv, .int .i64 ph, .int .i64 x, .int .i64 y], .cells M.cells]) (by simp)).mono [.cells M.cells]
        rw [eB, eM] at this
        simpa only [List.append_assoc, List.cons_append, List.nil_append] using this
      have hfst : okSt (st ++ (.cells [.int .i64 c.ve, .int .i64 c.he, .int .i64 c.ep, .int .i64 c.ak] :: .cells [.int .i64 pv, .int .i64 ph, .int .i64 x, .int .i64 y] :: .cells M.cells :: (B ++ [.cells M.cells]))) := by
        have := okSt_set (k := st.length + 2) hMst2 (idOks_mf hMok2)
        rw [List.set_append_right _ _ (by omega), Nat.add_sub_cancel_left] at this
        exact this
      refine ⟨M, .cells [.int .i64 c.ve, .int .i64 c.he, .int .i64 c.ep, .int .i64 c.ak] :: .cells [.int .i64 pv, .int .i64 ph, .int .i64 x, .int .i64 y] :: .cells M.cells :: (B ++ [.cells M.cells]), ?_, hfin, hfst, by rw [e2, hMp]⟩
      rw [e0]
      simp (maxSteps := 2000000) (disch := first | omega | (simp only [List.length_append, List.length_cons, List.length_nil, List.length_map] <;> omega)) only [sf16, h1, h2, qv, q1, q2, q3, q6, q7, cv_agg, cv_int, cell_int, getA0, getA, List.append_assoc, Nat.add_zero, List.set_cons_zero, List.set_cons_succ, flg_int, exc_int, exc_agg, swp_seq, swp_reg, swp_skip, swp_cond, seqK_n, condK_f, evK_some, appK_eq, grd_t, srun_nil, srun_cons, stepK_call, stepK_grd, swpF_eq, sk_mv, sk_take, sk_give, sk_pick, sk_bin, sk_fld, sk_load, sk_bld, sk_box, sk_alloc, get_mk, raw_slot, raw_lit, put_some, wb_nil, ev_mv, ev_take, ev_give, ev_pick, ev_fld, bin_add, bin_gtr, bin_geq, ev_bld, ev_box, ev_alloc, ev_ldP, ldP_some, ro_int, ro_bool, ro1_int, got_int, got_agg, pubs, pubsFrom, List.map_cons, List.map_nil, List.getD_cons_zero, List.getD_cons_succ, List.set_cons_zero, List.set_cons_succ, List.getElem?_cons_zero, List.getElem?_cons_succ, List.length_cons, List.length_nil, List.replicate_succ, List.replicate_zero, List.cons_append, List.nil_append, Nat.reduceAdd, Nat.reduceSub, Nat.reduceLeDiff, and_true, Bool.false_eq_true, Option.map_some, ↓reduceIte, List.all_cons, List.all_nil, Bool.and_self, List.zip_cons_cons, List.zip_nil_right, fillV, wrCells, Nat.zero_add, ge_iff_le, gt_iff_lt, wrap_i64, List.length_append, Nat.le_refl]
      rw [← e45]
      refine callK_intro (.inl k24) ?_
      simp (maxSteps := 2000000) (disch := first | omega | (simp only [List.length_append, List.length_cons, List.length_nil, List.length_map] <;> omega)) only [s8, getA0, getA, ev_ldA, List.drop_zero, List.append_assoc, List.set_cons_zero, List.set_cons_succ, apO_some, swp_seq, swp_reg, seqK_n, evK_some, appK_eq, appC_eq, srun_nil, srun_cons, sk_load, sk_store, sk_alloc, get_mk, raw_slot, put_some, put_none, wb_nil, ev_alloc, ro_agg, List.map_cons, List.map_nil, List.getD_cons_zero, List.getD_cons_succ, List.set_cons_zero, List.set_cons_succ, List.getElem?_cons_zero, List.getElem?_cons_succ, List.length_cons, List.cons_append, Nat.zero_add, List.length_append]
      simp (maxSteps := 2000000) (disch := first | omega | (simp only [List.length_append, List.length_cons, List.length_nil, List.length_map] <;> omega)) only [mlen, mtake, m1, List.set_cons_zero, List.set_cons_succ, exc_agg, evK_some, appK_eq, srun_cons, stepK_call, get_mk, raw_slot, put_some, wb_nil, got_agg, pubs, pubsFrom, List.map_cons, List.map_nil, List.getD_cons_zero, List.getD_cons_succ, List.set_cons_zero, List.set_cons_succ, Bool.false_eq_true, ↓reduceIte, Nat.le_refl]
      refine callK_intro (.inl (b19 hMok2 hMfit hMst2)) ?_
      rw [hMr, h9]
      simp (maxSteps := 2000000) (disch := first | omega | (simp only [List.length_append, List.length_cons, List.length_nil, List.length_map] <;> omega)) only [get_end', mlen, mtake, m1, sT, getA, ev_ldA, List.drop_zero, List.set_cons_zero, List.set_cons_succ, apO_some, flg_int, swp_seq, swp_reg, swp_skip, swp_ret, swp_cond, seqK_n, condK_f, evK_some, appK_eq, appC_eq, srun_nil, srun_cons, sk_give, sk_un, sk_load, sk_store, get_mk, raw_slot, raw_lit, put_some, put_none, wb_nil, ev_give, ev_not, ro_int, ro_agg, List.map_cons, List.map_nil, List.getD_cons_zero, List.getD_cons_succ, List.set_cons_zero, List.set_cons_succ, List.getElem?_cons_succ, Bool.false_eq_true, ↓reduceIte, Nat.zero_add, Bool.not_true, Nat.le_refl]
      refine ⟨_, _, ?_, .same, rfl, rfl⟩
      rw [retOf_cell2 (n := 8) (t := 11) (id := st.length + 2) (l := M.cells) (r := .agg M.cells) rfl (by rw [getA]; rfl) rfl (ro_mf hMok)]; rfl
    
  | true =>
    rcases bf (decide (c.ep < 9223372036854775807)) with h0 | h0
    · have h2 : decide (100 < c.ep) = true := by simp at h0 ⊢; omega
      rcases bt (decide (200 ≤ c.ve)) with h1 | h1
      · have e0 : nxtF c au true pv ph v ps = 2 := by
          rcases nxtF_cases (c := c) (au := au) (turn := true) (pv := pv) (ph := ph) (v := v) (ps := ps) with ⟨e, _⟩ | ⟨g1, g2, _⟩
          · exact e
          · exfalso
            simp only [nxtE, if_true, decide_eq_true_eq, decide_eq_false_iff_not] at *
            omega
        have e2 : nxtG c au true pv ph v ps = Mf.none := by unfold nxtG; rw [if_neg (by rw [e0]; decide)]
        refine ⟨Mf.none, [], ?_, by rw [List.append_nil]; exact Mf.none_ok st, by rw [List.append_nil]; exact ho, by rw [e2]⟩
        rw [List.append_nil, e0]
        simp (maxSteps := 2000000) (disch := first | omega | (simp only [List.length_append, List.length_cons, List.length_nil, List.length_map] <;> omega)) only [sf16, h0, h1, sn, cv_agg, cell_int, getA0, List.append_assoc, Nat.add_zero, List.set_cons_zero, List.set_cons_succ, flg_int, exc_int, exc_agg, swp_seq, swp_reg, swp_skip, swp_ret, swp_cond, seqK_n, seqK_r, condK_t, condK_f, evK_some, appK_eq, grd_t, srun_nil, srun_cons, stepK_grd, swpF_eq, sk_mv, sk_take, sk_give, sk_pick, sk_bin, sk_fld, sk_load, sk_store, sk_bld, sk_box, sk_alloc, get_mk, raw_slot, raw_lit, put_some, put_none, wb_nil, ev_mv, ev_take, ev_give, ev_pick, ev_fld, bin_lss, bin_geq, ev_bld, ev_box, ev_alloc, ev_ldP, ldP_some, ro_int, ro_bool, ro1_int, got_int, got_agg, pubs, pubsFrom, List.map_cons, List.map_nil, List.getD_cons_zero, List.getD_cons_succ, List.set_cons_zero, List.set_cons_succ, List.getElem?_cons_zero, List.getElem?_cons_succ, List.length_cons, List.length_nil, List.replicate_succ, List.replicate_zero, List.cons_append, List.nil_append, Nat.reduceAdd, Nat.reduceSub, Bool.false_eq_true, Option.map_some, ↓reduceIte, List.all_cons, List.all_nil, Bool.and_self, List.zip_nil_right, fillV, Nat.zero_add, reduceCtorEq, ge_iff_le, List.length_append]
        exact fn_mf (res := (10, 11)) (m := Mf.none) (e := 2) rfl rfl ho rfl rfl rfl rfl rfl
        
      have e0 : nxtF c au true pv ph v ps = 2 := by
        rcases nxtF_cases (c := c) (au := au) (turn := true) (pv := pv) (ph := ph) (v := v) (ps := ps) with ⟨e, _⟩ | ⟨g1, g2, _⟩
        · exact e
        · exfalso
          simp only [nxtE, if_true, decide_eq_true_eq, decide_eq_false_iff_not] at *
          omega
      have e2 : nxtG c au true pv ph v ps = Mf.none := by unfold nxtG; rw [if_neg (by rw [e0]; decide)]
      refine ⟨Mf.none, [], ?_, by rw [List.append_nil]; exact Mf.none_ok st, by rw [List.append_nil]; exact ho, by rw [e2]⟩
      rw [List.append_nil, e0]
      simp (maxSteps := 2000000) (disch := first | omega | (simp only [List.length_append, List.length_cons, List.length_nil, List.length_map] <;> omega)) only [sf16, h0, h1, h2, sn, cv_agg, cell_int, getA0, List.append_assoc, Nat.add_zero, List.set_cons_zero, List.set_cons_succ, flg_int, exc_int, exc_agg, swp_seq, swp_reg, swp_skip, swp_ret, swp_cond, seqK_n, seqK_r, condK_t, condK_f, evK_some, appK_eq, grd_t, srun_nil, srun_cons, stepK_grd, swpF_eq, sk_mv, sk_take, sk_give, sk_pick, sk_bin, sk_fld, sk_load, sk_store, sk_bld, sk_box, sk_alloc, get_mk, raw_slot, raw_lit, put_some, put_none, wb_nil, ev_mv, ev_take, ev_give, ev_pick, ev_fld, bin_lss, bin_gtr, bin_geq, ev_bld, ev_box, ev_alloc, ev_ldP, ldP_some, ro_int, ro_bool, ro1_int, got_int, got_agg, pubs, pubsFrom, List.map_cons, List.map_nil, List.getD_cons_zero, List.getD_cons_succ, List.set_cons_zero, List.set_cons_succ, List.getElem?_cons_zero, List.getElem?_cons_succ, List.length_cons, List.length_nil, List.replicate_succ, List.replicate_zero, List.cons_append, List.nil_append, Nat.reduceAdd, Nat.reduceSub, Bool.false_eq_true, Option.map_some, ↓reduceIte, List.all_cons, List.all_nil, Bool.and_self, List.zip_nil_right, fillV, Nat.zero_add, ge_iff_le, gt_iff_lt, List.length_append]
      exact fn_mf (res := (10, 11)) (m := Mf.none) (e := 2) rfl rfl ho rfl rfl rfl rfl rfl
      
    have n0 : c.ep < 9223372036854775807 := by simpa using h0
    rcases bt (decide (200 ≤ c.ve)) with h1 | h1
    · have e0 : nxtF c au true pv ph v ps = 2 := by
        rcases nxtF_cases (c := c) (au := au) (turn := true) (pv := pv) (ph := ph) (v := v) (ps := ps) with ⟨e, _⟩ | ⟨g1, g2, _⟩
        · exact e
        · exfalso
          simp only [nxtE, if_true, decide_eq_true_eq] at *
          omega
      have e2 : nxtG c au true pv ph v ps = Mf.none := by unfold nxtG; rw [if_neg (by rw [e0]; decide)]
      refine ⟨Mf.none, [], ?_, by rw [List.append_nil]; exact Mf.none_ok st, by rw [List.append_nil]; exact ho, by rw [e2]⟩
      rw [List.append_nil, e0]
      simp (maxSteps := 2000000) (disch := first | omega | (simp only [List.length_append, List.length_cons, List.length_nil, List.length_map] <;> omega)) only [sf16, h0, h1, sn, cv_agg, cell_int, getA0, List.append_assoc, Nat.add_zero, List.set_cons_zero, List.set_cons_succ, flg_int, exc_int, exc_agg, swp_seq, swp_reg, swp_ret, swp_cond, seqK_n, seqK_r, condK_t, evK_some, appK_eq, grd_t, srun_nil, srun_cons, stepK_grd, swpF_eq, sk_mv, sk_take, sk_give, sk_pick, sk_bin, sk_fld, sk_load, sk_store, sk_bld, sk_box, sk_alloc, get_mk, raw_slot, raw_lit, put_some, put_none, wb_nil, ev_mv, ev_take, ev_give, ev_pick, ev_fld, bin_add, bin_lss, bin_geq, ev_bld, ev_box, ev_alloc, ev_ldP, ldP_some, ro_int, ro_bool, ro1_int, got_int, got_agg, pubs, pubsFrom, List.map_cons, List.map_nil, List.getD_cons_zero, List.getD_cons_succ, List.set_cons_zero, List.set_cons_succ, List.getElem?_cons_zero, List.getElem?_cons_succ, List.length_cons, List.length_nil, List.replicate_succ, List.replicate_zero, List.cons_append, List.nil_append, Nat.reduceAdd, Nat.reduceSub, Bool.false_eq_true, Option.map_some, ↓reduceIte, List.all_cons, List.all_nil, Bool.and_self, List.zip_nil_right, fillV, Nat.zero_add, reduceCtorEq, ge_iff_le, wrap_i64, List.length_append]
      exact fn_mf (res := (10, 11)) (m := Mf.none) (e := 2) rfl rfl ho rfl rfl rfl rfl rfl
      
    rcases bt (decide (100 < c.ep + 1)) with h2 | h2
    · have e0 : nxtF c au true pv ph v ps = 2 := by
        rcases nxtF_cases (c := c) (au := au) (turn := true) (pv := pv) (ph := ph) (v := v) (ps := ps) with ⟨e, _⟩ | ⟨g1, g2, _⟩
        · exact e
        · exfalso
          simp only [nxtE, if_true, decide_eq_true_eq, decide_eq_false_iff_not] at *
          omega
      have e2 : nxtG c au true pv ph v ps = Mf.none := by unfold nxtG; rw [if_neg (by rw [e0]; decide)]
      refine ⟨Mf.none, [], ?_, by rw [List.append_nil]; exact Mf.none_ok st, by rw [List.append_nil]; exact ho, by rw [e2]⟩
      rw [List.append_nil, e0]
      simp (maxSteps := 2000000) (disch := first | omega | (simp only [List.length_append, List.length_cons, List.length_nil, List.length_map] <;> omega)) only [sf16, h0, h1, h2, sn, cv_agg, cell_int, getA0, List.append_assoc, Nat.add_zero, List.set_cons_zero, List.set_cons_succ, flg_int, exc_int, exc_agg, swp_seq, swp_reg, swp_ret, swp_cond, seqK_n, seqK_r, condK_t, evK_some, appK_eq, grd_t, srun_nil, srun_cons, stepK_grd, swpF_eq, sk_mv, sk_take, sk_give, sk_pick, sk_bin, sk_fld, sk_load, sk_store, sk_bld, sk_box, sk_alloc, get_mk, raw_slot, raw_lit, put_some, put_none, wb_nil, ev_mv, ev_take, ev_give, ev_pick, ev_fld, bin_add, bin_lss, bin_gtr, bin_geq, ev_bld, ev_box, ev_alloc, ev_ldP, ldP_some, ro_int, ro_bool, ro1_int, got_int, got_agg, pubs, pubsFrom, List.map_cons, List.map_nil, List.getD_cons_zero, List.getD_cons_succ, List.set_cons_zero, List.set_cons_succ, List.getElem?_cons_zero, List.getElem?_cons_succ, List.length_cons, List.length_nil, List.replicate_succ, List.replicate_zero, List.cons_append, List.nil_append, Nat.reduceAdd, Nat.reduceSub, Bool.false_eq_true, Option.map_some, ↓reduceIte, List.all_cons, List.all_nil, Bool.and_self, List.zip_nil_right, fillV, Nat.zero_add, ge_iff_le, gt_iff_lt, wrap_i64, List.length_append]
      exact fn_mf (res := (10, 11)) (m := Mf.none) (e := 2) rfl rfl ho rfl rfl rfl rfl rfl
      
    have n1 : ¬ 200 ≤ c.ve := by simpa using h1
    have n2 : ¬ 100 < c.ep + 1 := by simpa using h2
    rcases nxtF_cases (c := c) (au := au) (turn := true) (pv := pv) (ph := ph) (v := v) (ps := ps) with ⟨_, e0⟩ | ⟨_, _, e0⟩
    · exfalso
      simp only [nxtE, if_true] at e0
      omega
    have hS := mk [Ob.cells [.int .i64 c.ve, .int .i64 c.he, .int .i64 c.ep, .int .i64 c.ak], .cells [.int .i64 pv, .int .i64 ph, .int .i64 x, .int .i64 y], .cells [.int .i64 0, .int .i64 0, .int .i64 0, .int .i64 0, .int .i64 0, .int .i64 0, .int .i64 0, .nilS]]
    obtain ⟨m0, em0⟩ : ∃ m0, nxtM c au true pv ph v ps = m0 := ⟨_, rfl⟩
    have e45 : SV.agg m0.cells = .agg [.int .i64 au, .int .i64 (c.ve + 1), .int .i64 c.he, .int .i64 c.ep, .int .i64 (c.ep + 1), .int .i64 pv, .int .i64 ph, v] := by rw [← em0]; rfl
    have hps : m0.ps = ps := by rw [← em0]; rfl
    have hpv : m0.pv ≠ .nilS := by rw [← em0]; exact hn
    have hfit : m0.fit := by rw [← em0]; unfold nxtM Mf.fit; simp only; omega
    rw [em0] at hS e0
    have k24 := b24 hS (by rw [hps]; exact hc) o3
    have hl3 : (st ++ [Ob.cells [.int .i64 c.ve, .int .i64 c.he, .int .i64 c.ep, .int .i64 c.ak], .cells [.int .i64 pv, .int .i64 ph, .int .i64 x, .int .i64 y], .cells [.int .i64 0, .int .i64 0, .int .i64 0, .int .i64 0, .int .i64 0, .int .i64 0, .int .i64 0, .nilS]]).length = st.length + 3 := by rw [List.length_append]; rfl
    have hMok := cpM_ok hS
    have hMst := cpS_okSt hS o3
    have hany := fun (base : List Ob) (hl : base.length = (st ++ [Ob.cells [.int .i64 c.ve, .int .i64 c.he, .int .i64 c.ep, .int .i64 c.ak], .cells [.int .i64 pv, .int .i64 ph, .int .i64 x, .int .i64 y], .cells [.int .i64 0, .int .i64 0, .int .i64 0, .int .i64 0, .int .i64 0, .int .i64 0, .int .i64 0, .nilS]]).length) => cp_any hS hpv hl (cpA (st ++ [Ob.cells [.int .i64 c.ve, .int .i64 c.he, .int .i64 c.ep, .int .i64 c.ak], .cells [.int .i64 pv, .int .i64 ph, .int .i64 x, .int .i64 y], .cells [.int .i64 0, .int .i64 0, .int .i64 0, .int .i64 0, .int .i64 0, .int .i64 0, .int .i64 0, .nilS]]) m0).cells
    rw [cpS_not hpv] at hMok hMst k24
    obtain ⟨B, eB⟩ : ∃ B, cpB (st ++ [Ob.cells [.int .i64 c.ve, .int .i64 c.he, .int .i64 c.ep, .int .i64 c.ak], .cells [.int .i64 pv, .int .i64 ph, .int .i64 x, .int .i64 y], .cells [.int .i64 0, .int .i64 0, .int .i64 0, .int .i64 0, .int .i64 0, .int .i64 0, .int .i64 0, .nilS]]) m0 (cpA (st ++ [Ob.cells [.int .i64 c.ve, .int .i64 c.he, .int .i64 c.ep, .int .i64 c.ak], .cells [.int .i64 pv, .int .i64 ph, .int .i64 x, .int .i64 y], .cells [.int .i64 0, .int .i64 0, .int .i64 0, .int .i64 0, .int .i64 0, .int .i64 0, .int .i64 0, .nilS]]) m0).cells m0.ps.length = B := ⟨_, rfl⟩
    obtain ⟨M, eM⟩ : ∃ M, cpM (st ++ [Ob.cells [.int .i64 c.ve, .int .i64 c.he, .int .i64 c.ep, .int .i64 c.ak], .cells [.int .i64 pv, .int .i64 ph, .int .i64 x, .int .i64 y], .cells [.int .i64 0, .int .i64 0, .int .i64 0, .int .i64 0, .int .i64 0, .int .i64 0, .int .i64 0, .nilS]]) m0 = M := ⟨_, rfl⟩
    have hMfit : M.fit := by rw [← eM]; exact cpM_fit hfit
    have hMr : rightM M = rightM m0 := by rw [← eM]; exact cpM_right _ _
    have hMp : M.pl = m0.pl := by rw [← eM]; exact cpM_pl _ _
    rw [eB, eM] at hMok k24
    rw [eB] at hMst
    have eapp : ∀ z : List Ob, st ++ [.cells [.int .i64 c.ve, .int .i64 c.he, .int .i64 c.ep, .int .i64 c.ak], .cells [.int .i64 pv, .int .i64 ph, .int .i64 x, .int .i64 y], .cells [.int .i64 0, .int .i64 0, .int .i64 0, .int .i64 0, .int .i64 0, .int .i64 0, .int .i64 0, .nilS]] ++ z = st ++ (.cells [.int .i64 c.ve, .int .i64 c.he, .int .i64 c.ep, .int .i64 c.ak] :: .cells [.int .i64 pv, .int .i64 ph, .int .i64 x, .int .i64 y] :: .cells [.int .i64 0, .int .i64 0, .int .i64 0, .int .i64 0, .int .i64 0, .int .i64 0, .int .i64 0, .nilS] :: z) := by intro z; simp
    rw [eapp] at hMok hMst k24
    have m1 := ro1_mf hMok
    have mlen : M.cells.length = 8 := rfl
    have mtake : M.cells.take 8 = M.cells := rfl
    have s8 := st_aggA (st := st) (l := .cells [.int .i64 c.ve, .int .i64 c.he, .int .i64 c.ep, .int .i64 c.ak] :: .cells [.int .i64 pv, .int .i64 ph, .int .i64 x, .int .i64 y] :: .cells [.int .i64 0, .int .i64 0, .int .i64 0, .int .i64 0, .int .i64 0, .int .i64 0, .int .i64 0, .nilS] :: (B ++ [.cells [.int .i64 0, .int .i64 0, .int .i64 0, .int .i64 0, .int .i64 0, .int .i64 0, .int .i64 0, .nilS]])) (i := B.length + 1 + 1 + 1) (n := 8) (b := true) (xs := M.cells) (c := [.int .i64 0, .int .i64 0, .int .i64 0, .int .i64 0, .int .i64 0, .int .i64 0, .int .i64 0, .nilS]) (by simp) m1 (cell_mf hMok) rfl rfl
    simp only [List.set_cons_succ, set_end'] at s8
    have hMok2 : M.ok (st ++ (.cells [.int .i64 c.ve, .int .i64 c.he, .int .i64 c.ep, .int .i64 c.ak] :: .cells [.int .i64 pv, .int .i64 ph, .int .i64 x, .int .i64 y] :: .cells [.int .i64 0, .int .i64 0, .int .i64 0, .int .i64 0, .int .i64 0, .int .i64 0, .int .i64 0, .nilS] :: (B ++ [.cells M.cells]))) := by
      have := hMok.mono [.cells M.cells]
      simpa only [List.append_assoc, List.cons_append] using this
    have hMst2 : okSt (st ++ (.cells [.int .i64 c.ve, .int .i64 c.he, .int .i64 c.ep, .int .i64 c.ak] :: .cells [.int .i64 pv, .int .i64 ph, .int .i64 x, .int .i64 y] :: .cells [.int .i64 0, .int .i64 0, .int .i64 0, .int .i64 0, .int .i64 0, .int .i64 0, .int .i64 0, .nilS] :: (B ++ [.cells M.cells]))) := by
      have := okM hMok hMst
      simpa only [List.append_assoc, List.cons_append] using this
    have sT := st_aggA (st := st) (l := .cells [.int .i64 c.ve, .int .i64 c.he, .int .i64 c.ep, .int .i64 c.ak] :: .cells [.int .i64 pv, .int .i64 ph, .int .i64 x, .int .i64 y] :: .cells [.int .i64 0, .int .i64 0, .int .i64 0, .int .i64 0, .int .i64 0, .int .i64 0, .int .i64 0, .nilS] :: (B ++ [.cells M.cells])) (i := 2) (n := 8) (b := true) (xs := M.cells) (c := [.int .i64 0, .int .i64 0, .int .i64 0, .int .i64 0, .int .i64 0, .int .i64 0, .int .i64 0, .nilS]) rfl m1 (cell_mf hMok) rfl rfl
    have sF := st_aggA (st := st) (l := .cells [.int .i64 c.ve, .int .i64 c.he, .int .i64 c.ep, .int .i64 c.ak] :: .cells [.int .i64 pv, .int .i64 ph, .int .i64 x, .int .i64 y] :: .cells [.int .i64 0, .int .i64 0, .int .i64 0, .int .i64 0, .int .i64 0, .int .i64 0, .int .i64 0, .nilS] :: (B ++ [.cells M.cells])) (i := 2) (n := 8) (b := true) (xs := [.int .i64 0, .int .i64 0, .int .i64 0, .int .i64 0, .int .i64 0, .int .i64 0, .int .i64 0, .nilS]) (c := [.int .i64 0, .int .i64 0, .int .i64 0, .int .i64 0, .int .i64 0, .int .i64 0, .int .i64 0, .nilS]) rfl rfl rfl rfl rfl
    rcases bf (rightM m0) with h9 | h9
    · rw [h9] at e0
      simp only [Bool.false_eq_true, if_false] at e0
      have e2 : nxtG c au true pv ph v ps = Mf.none := by unfold nxtG; rw [if_neg (by rw [e0]; decide)]
      refine ⟨Mf.none, [], ?_, by rw [List.append_nil]; exact Mf.none_ok st, by rw [List.append_nil]; exact ho, by rw [e2]⟩
      rw [List.append_nil, e0]
      simp (maxSteps := 2000000) (disch := first | omega | (simp only [List.length_append, List.length_cons, List.length_nil, List.length_map] <;> omega)) only [sf16, h0, h1, h2, qv, q1, q2, q3, q6, q7, cv_agg, cv_int, cell_int, getA0, getA, List.append_assoc, Nat.add_zero, List.set_cons_zero, List.set_cons_succ, flg_int, exc_int, exc_agg, swp_seq, swp_reg, swp_skip, swp_cond, seqK_n, condK_t, condK_f, evK_some, appK_eq, grd_t, srun_nil, srun_cons, stepK_call, stepK_grd, swpF_eq, sk_mv, sk_take, sk_give, sk_pick, sk_bin, sk_fld, sk_load, sk_bld, sk_box, sk_alloc, get_mk, raw_slot, raw_lit, put_some, wb_nil, ev_mv, ev_take, ev_give, ev_pick, ev_fld, bin_add, bin_lss, bin_gtr, bin_geq, ev_bld, ev_box, ev_alloc, ev_ldP, ldP_some, ro_int, ro_bool, ro1_int, got_int, got_agg, pubs, pubsFrom, List.map_cons, List.map_nil, List.getD_cons_zero, List.getD_cons_succ, List.set_cons_zero, List.set_cons_succ, List.getElem?_cons_zero, List.getElem?_cons_succ, List.length_cons, List.length_nil, List.replicate_succ, List.replicate_zero, List.cons_append, List.nil_append, Nat.reduceAdd, Nat.reduceSub, Nat.reduceLeDiff, and_true, Bool.false_eq_true, Option.map_some, ↓reduceIte, List.all_cons, List.all_nil, Bool.and_self, List.zip_cons_cons, List.zip_nil_right, fillV, wrCells, Nat.zero_add, ge_iff_le, gt_iff_lt, wrap_i64, List.length_append, Nat.le_refl]
      rw [← e45]
      refine callK_intro (.inl k24) ?_
      simp (maxSteps := 2000000) (disch := first | omega | (simp only [List.length_append, List.length_cons, List.length_nil, List.length_map] <;> omega)) only [s8, getA0, getA, ev_ldA, List.drop_zero, List.append_assoc, List.set_cons_zero, List.set_cons_succ, apO_some, swp_seq, swp_reg, seqK_n, evK_some, appK_eq, appC_eq, srun_nil, srun_cons, sk_load, sk_store, sk_alloc, get_mk, raw_slot, put_some, put_none, wb_nil, ev_alloc, ro_agg, List.map_cons, List.map_nil, List.getD_cons_zero, List.getD_cons_succ, List.set_cons_zero, List.set_cons_succ, List.getElem?_cons_zero, List.getElem?_cons_succ, List.length_cons, List.cons_append, Nat.zero_add, List.length_append]
      simp (maxSteps := 2000000) (disch := first | omega | (simp only [List.length_append, List.length_cons, List.length_nil, List.length_map] <;> omega)) only [mlen, mtake, m1, List.set_cons_zero, List.set_cons_succ, exc_agg, evK_some, appK_eq, srun_cons, stepK_call, get_mk, raw_slot, put_some, wb_nil, got_agg, pubs, pubsFrom, List.map_cons, List.map_nil, List.getD_cons_zero, List.getD_cons_succ, List.set_cons_zero, List.set_cons_succ, Bool.false_eq_true, ↓reduceIte, Nat.le_refl]
      refine callK_intro (.inl (b19 hMok2 hMfit hMst2)) ?_
      rw [hMr, h9]
      simp (maxSteps := 2000000) (disch := first | omega | (simp only [List.length_append, List.length_cons, List.length_nil, List.length_map] <;> omega)) only [sF, List.set_cons_zero, List.set_cons_succ, flg_int, swp_seq, swp_reg, swp_ret, swp_cond, seqK_n, seqK_r, condK_t, evK_some, appK_eq, appC_eq, srun_nil, srun_cons, sk_give, sk_un, sk_store, sk_bld, get_mk, raw_slot, raw_lit, put_some, put_none, wb_nil, ev_give, ev_not, ev_bld, ro_int, pubs, pubsFrom, List.map_cons, List.map_nil, List.getD_cons_zero, List.getD_cons_succ, List.set_cons_zero, List.set_cons_succ, List.length_nil, Bool.false_eq_true, Option.map_some, ↓reduceIte, List.zip_nil_right, fillV, Bool.not_false]
      exact fn_mf (res := (10, 11)) (m := Mf.none) (e := 4) rfl rfl ho rfl rfl rfl rfl rfl
    · rw [h9] at e0
      simp only [if_true] at e0
      have e2 : nxtG c au true pv ph v ps = m0 := by unfold nxtG; rw [if_pos e0, em0]
      have hfin : M.ok (st ++ (.cells [.int .i64 c.ve, .int .i64 c.he, .int .i64 c.ep, .int .i64 c.ak] :: .cells [.int .i64 pv, .int .i64 ph, .int .i64 x, .int .i64 y] :: .cells M.cells :: (B ++ [.cells M.cells]))) := by
        have := (hany (st ++ [.cells [.int .i64 c.ve, .int .i64 c.he, .int .i64 c.ep, .int .i64 c.ak], .cells [.int .i64 pv, .int .i64 ph, .int .i64 x, .int .i64 y], .cells M.cells]) (by simp)).mono [.cells M.cells]
        rw [eB, eM] at this
        simpa only [List.append_assoc, List.cons_append, List.nil_append] using this
      have hfst : okSt (st ++ (.cells [.int .i64 c.ve, .int .i64 c.he, .int .i64 c.ep, .int .i64 c.ak] :: .cells [.int .i64 pv, .int .i64 ph, .int .i64 x, .int .i64 y] :: .cells M.cells :: (B ++ [.cells M.cells]))) := by
        have := okSt_set (k := st.length + 2) hMst2 (idOks_mf hMok2)
        rw [List.set_append_right _ _ (by omega), Nat.add_sub_cancel_left] at this
        exact this
      refine ⟨M, .cells [.int .i64 c.ve, .int .i64 c.he, .int .i64 c.ep, .int .i64 c.ak] :: .cells [.int .i64 pv, .int .i64 ph, .int .i64 x, .int .i64 y] :: .cells M.cells :: (B ++ [.cells M.cells]), ?_, hfin, hfst, by rw [e2, hMp]⟩
      rw [e0]
      simp (maxSteps := 2000000) (disch := first | omega | (simp only [List.length_append, List.length_cons, List.length_nil, List.length_map] <;> omega)) only [sf16, h0, h1, h2, qv, q1, q2, q3, q6, q7, cv_agg, cv_int, cell_int, getA0, getA, List.append_assoc, Nat.add_zero, List.set_cons_zero, List.set_cons_succ, flg_int, exc_int, exc_agg, swp_seq, swp_reg, swp_skip, swp_cond, seqK_n, condK_t, condK_f, evK_some, appK_eq, grd_t, srun_nil, srun_cons, stepK_call, stepK_grd, swpF_eq, sk_mv, sk_take, sk_give, sk_pick, sk_bin, sk_fld, sk_load, sk_bld, sk_box, sk_alloc, get_mk, raw_slot, raw_lit, put_some, wb_nil, ev_mv, ev_take, ev_give, ev_pick, ev_fld, bin_add, bin_lss, bin_gtr, bin_geq, ev_bld, ev_box, ev_alloc, ev_ldP, ldP_some, ro_int, ro_bool, ro1_int, got_int, got_agg, pubs, pubsFrom, List.map_cons, List.map_nil, List.getD_cons_zero, List.getD_cons_succ, List.set_cons_zero, List.set_cons_succ, List.getElem?_cons_zero, List.getElem?_cons_succ, List.length_cons, List.length_nil, List.replicate_succ, List.replicate_zero, List.cons_append, List.nil_append, Nat.reduceAdd, Nat.reduceSub, Nat.reduceLeDiff, and_true, Bool.false_eq_true, Option.map_some, ↓reduceIte, List.all_cons, List.all_nil, Bool.and_self, List.zip_cons_cons, List.zip_nil_right, fillV, wrCells, Nat.zero_add, ge_iff_le, gt_iff_lt, wrap_i64, List.length_append, Nat.le_refl]
      rw [← e45]
      refine callK_intro (.inl k24) ?_
      simp (maxSteps := 2000000) (disch := first | omega | (simp only [List.length_append, List.length_cons, List.length_nil, List.length_map] <;> omega)) only [s8, getA0, getA, ev_ldA, List.drop_zero, List.append_assoc, List.set_cons_zero, List.set_cons_succ, apO_some, swp_seq, swp_reg, seqK_n, evK_some, appK_eq, appC_eq, srun_nil, srun_cons, sk_load, sk_store, sk_alloc, get_mk, raw_slot, put_some, put_none, wb_nil, ev_alloc, ro_agg, List.map_cons, List.map_nil, List.getD_cons_zero, List.getD_cons_succ, List.set_cons_zero, List.set_cons_succ, List.getElem?_cons_zero, List.getElem?_cons_succ, List.length_cons, List.cons_append, Nat.zero_add, List.length_append]
      simp (maxSteps := 2000000) (disch := first | omega | (simp only [List.length_append, List.length_cons, List.length_nil, List.length_map] <;> omega)) only [mlen, mtake, m1, List.set_cons_zero, List.set_cons_succ, exc_agg, evK_some, appK_eq, srun_cons, stepK_call, get_mk, raw_slot, put_some, wb_nil, got_agg, pubs, pubsFrom, List.map_cons, List.map_nil, List.getD_cons_zero, List.getD_cons_succ, List.set_cons_zero, List.set_cons_succ, Bool.false_eq_true, ↓reduceIte, Nat.le_refl]
      refine callK_intro (.inl (b19 hMok2 hMfit hMst2)) ?_
      rw [hMr, h9]
      simp (maxSteps := 2000000) (disch := first | omega | (simp only [List.length_append, List.length_cons, List.length_nil, List.length_map] <;> omega)) only [get_end', mlen, mtake, m1, sT, getA, ev_ldA, List.drop_zero, List.set_cons_zero, List.set_cons_succ, apO_some, flg_int, swp_seq, swp_reg, swp_skip, swp_ret, swp_cond, seqK_n, condK_f, evK_some, appK_eq, appC_eq, srun_nil, srun_cons, sk_give, sk_un, sk_load, sk_store, get_mk, raw_slot, raw_lit, put_some, put_none, wb_nil, ev_give, ev_not, ro_int, ro_agg, List.map_cons, List.map_nil, List.getD_cons_zero, List.getD_cons_succ, List.set_cons_zero, List.set_cons_succ, List.getElem?_cons_succ, Bool.false_eq_true, ↓reduceIte, Nat.zero_add, Bool.not_true, Nat.le_refl]
      refine ⟨_, _, ?_, .same, rfl, rfl⟩
      rw [retOf_cell2 (n := 8) (t := 11) (id := st.length + 2) (l := M.cells) (r := .agg M.cells) rfl (by rw [getA]; rfl) rfl (ro_mf hMok)]; rfl
    
def KNextA : List SV → List Ob → SV → List Ob → Prop := fun args st r st' => args.length = 5 ∧ swpF O106 sf16 args st (fun r' s' => r' = r ∧ s' = st')
def O107 : Orc := O106.add 16 KNextA
theorem s107 : Sound Tryd.prog O107 := s106.add c16 (by kernel_rfl) (by
  rintro args st r st' ⟨h, hr⟩
  exact ⟨by rw [h]; simp [sf16], hr⟩)
end Go.Sh.F
namespace Go.Sh.F
open Go.PathLaw Go.Proofs
theorem n12c {c : Cu} {au : Int} {m : Mf} {head : Int} {v : SV} {own : List Int} {st : List Ob} (h1 : m.ok st) (h2 : m.fit) (h3 : RowI st v own) (h4 : own.length ≤ 1099511627776) (h5 : okSt st) :
    O107 12 [.agg c.cells, .int .i64 au, .agg m.cells, .int .i64 head, v] st (.tup [.agg (accC c au m head own).cells, .int .i64 (accE c au m own)]) st := (.inl (.inl (.inl (.inl (.inl (.inl (.inl (t12 h1 h2 h3 h4 h5))))))))
theorem ro2_aggC {l : List SV} : ro2 (.agg l) = .agg (l.map ro1) := rfl
set_option maxHeartbeats 32000000 in
set_option maxRecDepth 50000 in
theorem g15 (c : Cu) (au : Int) (v : SV) (l : List Mf) (hv : SV) (hs : List Int) (ov : SV) (own : List Int) (st : List Ob) (hm : RowM st v l) (hh : RowI st hv hs) (hhl : hs.length ≤ 1099511627776) (hw : RowI st ov own) (hwl : own.length ≤ 1099511627776) (ho : okSt st) :
    swpF O107 sf15 [.agg c.cells, .int .i64 au, v, hv, ov] st (fun r st' => r = .tup [.agg (folF au own c l hs 0).1.cells, .int .i64 (folF au own c l hs 0).2.1, .int .i64 (folF au own c l hs 0).2.2] ∧ st' = st) := by
  obtain ⟨q1, q2, q3, q4, q6, q7⟩ := hm.1.facts
  obtain ⟨u1, u2, u3, u4, u6, u7⟩ := hh.facts
  obtain ⟨w1, w2, w3, w4, w6, w7⟩ := hw.facts
  have q5 := hm.1.lenL
  have u5 := hh.lenL
  have w5 := hw.lenL
  have hb := hm.2.1
  have i1 := hm.idp 2
  have i2 := RowI.idp hh 2
  have i3 := RowI.idp hw 2
  have wk := fun x => RowAt.mono hw x
  have o2 : ∀ k : Cu, okSt (st ++ [.cells [.int .i64 k.ve, .int .i64 k.he, .int .i64 k.ep, .int .i64 k.ak], .cells [.int .i64 0, .int .i64 0, .int .i64 0, .int .i64 0]]) := fun k => okSt_appL ho rfl
  have sF := fun k : Cu => st_aggA (st := st) (l := [.cells [.int .i64 k.ve, .int .i64 k.he, .int .i64 k.ep, .int .i64 k.ak], .cells [.int .i64 0, .int .i64 0, .int .i64 0, .int .i64 0]]) (i := 1) (n := 4) (b := true) (xs := [.int .i64 k.ve, .int .i64 k.he, .int .i64 k.ep, .int .i64 k.ak]) rfl rfl rfl rfl rfl
  have sN := fun (k : Cu) (a : Ob) => st_aggA (st := st) (l := [.cells [.int .i64 k.ve, .int .i64 k.he, .int .i64 k.ep, .int .i64 k.ak], .cells [.int .i64 0, .int .i64 0, .int .i64 0, .int .i64 0], a]) (i := 1) (n := 4) (b := true) (xs := [.int .i64 k.ve, .int .i64 k.he, .int .i64 k.ep, .int .i64 k.ak]) rfl rfl rfl rfl rfl
  have sX := fun (w0 w1 : Ob) (a b d e : Int) => st_aggA (st := st) (l := [w0, w1, .cells [.int .i64 0, .int .i64 0, .int .i64 0, .int .i64 0]]) (i := 2) (n := 4) (b := true) (xs := [.int .i64 a, .int .i64 b, .int .i64 d, .int .i64 e]) rfl rfl rfl rfl rfl
  have s0 := fun (k : Cu) (w1 w2 : Ob) (a b d e : Int) => st_aggA (st := st) (l := [.cells [.int .i64 k.ve, .int .i64 k.he, .int .i64 k.ep, .int .i64 k.ak], w1, w2]) (i := 0) (n := 4) (b := true) (xs := [.int .i64 a, .int .i64 b, .int .i64 d, .int .i64 e]) rfl rfl rfl rfl rfl
  simp only [Nat.add_zero] at s0
  simp only [acc_tup]
  simp (maxSteps := 2000000) (disch := first | omega | (simp only [List.length_append, List.length_cons, List.length_nil, List.length_map] <;> omega)) only [sf15, cv_agg, cell_int, List.append_assoc, List.set_cons_zero, List.set_cons_succ, flg_int, exc_int, exc_agg, swp_seq, swp_reg, swp_block, seqK_n, evK_some, appK_eq, srun_nil, srun_cons, swpF_eq, sk_take, sk_give, sk_box, sk_alloc, get_mk, raw_slot, raw_lit, put_some, wb_nil, ev_take, ev_give, ev_box, ev_alloc, ro_int, ro1_int, got_int, got_agg, List.map_cons, List.map_nil, List.getD_cons_zero, List.set_cons_zero, List.set_cons_succ, List.length_cons, List.length_nil, List.replicate_succ, List.replicate_zero, List.cons_append, List.nil_append, Nat.reduceAdd, Nat.reduceSub, Bool.false_eq_true, ↓reduceIte, List.all_cons, List.all_nil, Bool.and_self, Nat.zero_add, List.length_append]
  refine swp_lp (fun S => ∃ (i : Nat) (k : Cu), i ≤ l.length ∧ folF au own c l hs 0 = folF au own k (l.drop i) (hs.drop i) i ∧ S = ⟨[.undef, .int .i64 au, v, hv, ov, .ptr st.length 0, .undef, .undef, .undef, .undef, .ptr (st.length + 1) 0, .undef, .undef, .int .i64 i] ++ List.replicate 38 .undef, st ++ [.cells [.int .i64 k.ve, .int .i64 k.he, .int .i64 k.ep, .int .i64 k.ak], .cells [.int .i64 0, .int .i64 0, .int .i64 0, .int .i64 0]]⟩)
      (fun S => match S.get 13 with | .int _ k => ((l.length : Int) - k).toNat | _ => 0)
      ⟨[.undef, .int .i64 au, v, hv, ov, .ptr st.length 0, .undef, .undef, .undef, .undef, .ptr (st.length + 1) 0, .undef, .undef, .int .i64 0] ++ List.replicate 38 .undef, st ++ [.cells [.int .i64 c.ve, .int .i64 c.he, .int .i64 c.ep, .int .i64 c.ak], .cells [.int .i64 0, .int .i64 0, .int .i64 0, .int .i64 0]]⟩ ?_ ⟨0, c, Nat.zero_le _, rfl, rfl⟩ ?_
  · refine Forget.of ?_
    repeat first | exact fg_e | refine fg_d ?_ | refine fg_k rfl ?_
  rintro S ⟨i, k, hi, hall, rfl⟩
  by_cases him : i = l.length
  · have hd : decide ((i : Int) < (l.length : Int)) = false := by rw [decide_eq_false_iff_not]; omega
    have e : folF au own c l hs 0 = (k, (l.length : Int), 0) := by rw [hall, him, List.drop_length, folF]
    simp (maxSteps := 2000000) (disch := first | omega | (simp only [List.length_append, List.length_cons, List.length_nil, List.length_map] <;> omega)) only [hd, sF, q1, q5, getA0, ev_ldA, List.drop_zero, List.take_succ_cons, List.take_zero, List.set_cons_zero, List.set_cons_succ, lpK_e, apO_some, flg_int, swp_seq, swp_reg, swp_ret, swp_exit, swp_cond, seqK_n, seqK_e, blkK_e, condK_f, evK_some, appK_eq, srun_nil, srun_cons, sk_mv, sk_give, sk_bin, sk_load, sk_store, sk_lenL, get_mk, raw_slot, raw_lit, put_some, put_none, wb_nil, ev_mv, ev_give, bin_lss, ro_int, ro_agg, ro1_int, List.map_cons, List.map_nil, List.getD_cons_zero, List.getD_cons_succ, List.set_cons_zero, List.set_cons_succ, List.getElem?_cons_zero, List.length_cons, List.length_nil, List.replicate_succ, List.replicate_zero, List.cons_append, List.nil_append, Nat.reduceAdd, Bool.false_eq_true, ↓reduceIte, Nat.zero_add, List.length_append, Nat.le_refl]
    exact fn_fol (c := k) rfl ho rfl rfl rfl rfl e
  have hd : decide ((i : Int) < (l.length : Int)) = true := by rw [decide_eq_true_eq]; omega
  have hil : i < l.length := by omega
  have fin : ((l.length : Int) - ((i + 1 : Nat) : Int)).toNat < ((l.length : Int) - (i : Int)).toNat := by omega
  obtain ⟨hmo, hmf⟩ := hm.2.2 _ (List.getElem_mem hil)
  have z1 := hm.1.idxA hil .i64
  have z2 := fun x => hm.at' hil x
  have z3 := ro1_mf hmo
  have step := folF_at (au := au) (own := own) (c := k) (hs := hs) hil
  by_cases hih : i < hs.length
  · have d2 : decide ((i : Int) < (hs.length : Int)) = true := by rw [decide_eq_true_eq]; omega
    have y1 := hh.idxB hih .i64
    rw [Nat.mul_one] at y1
    have y2 := fun x => hh.ld1 (isv_at (List.getElem?_eq_getElem hih)) x
    have eh : hs.getD i 0 = hs[i] := by rw [List.getD_eq_getElem?_getD, List.getElem?_eq_getElem hih]; rfl
    rw [eh] at step
    rcases bf (accE k au l[i] own == 0) with e1 | e1
    · have e1' : ¬ accE k au l[i] own = 0 := by simpa using e1
      rw [if_neg e1'] at step
      have xc : accC k au l[i] hs[i] own = k := by unfold accC; rw [if_neg e1']
      simp (maxSteps := 2000000) (disch := first | omega | (simp only [List.length_append, List.length_cons, List.length_nil, List.length_map] <;> omega)) only [hd, d2, y1, y2, z1, q1, q5, u1, u5, w1, List.set_cons_zero, List.set_cons_succ, flg_int, exc_int, sk_idxB, swp_seq, swp_reg, swp_skip, swp_block, swp_cond, seqK_n, condK_t, evK_some, appK_eq, srun_nil, srun_cons, sk_mv, sk_take, sk_give, sk_bin, sk_idxA, sk_load, sk_lenL, get_mk, raw_slot, raw_lit, put_some, wb_nil, ev_mv, ev_take, ev_give, bin_lss, ro_int, got_int, List.map_cons, List.map_nil, List.getD_cons_zero, List.getD_cons_succ, List.set_cons_zero, List.set_cons_succ, List.length_cons, List.length_nil, List.replicate_succ, List.replicate_zero, List.cons_append, List.nil_append, Nat.reduceAdd, Bool.false_eq_true, ↓reduceIte, Nat.zero_add, List.length_append]
      apply swp_to
      · repeat' first
          | exact swp_ttI
          | refine swp_bothI ?_ ?_
          | (refine callK_intro (n12c (c := k) (hmo.mono _) hmf (wk _) hwl (okSt_appL ho rfl)) ?_; rw [xc])
          | exact ⟨rfl, rfl⟩
          | exact rfl
          | simp (maxSteps := 2000000) (disch := first | omega | (simp only [List.length_append, List.length_cons, List.length_nil, List.length_map] <;> omega)) only [ro2_aggC, Cu.cells, z2, z3, sX, w2, w3, getA0, ev_ldA, List.drop_zero, List.take_succ_cons, List.take_zero, List.append_assoc, List.set_cons_zero, List.set_cons_succ, apO_some, flg_int, flg_agg, exc_int, exc_agg, swp_seq, swp_reg, seqK_n, evK_some, appK_eq, appC_eq, srun_nil, srun_cons, stepK_call, sk_mv, sk_give, sk_load, sk_store, sk_alloc, sk_ext, get_mk, raw_slot, put_some, put_none, wb_nil, ev_mv, ev_give, ev_ext, ev_alloc, ro_int, ro_agg, ro_tup, ro1_int, ro2_int, got_int, got_agg, pubs, pubsFrom, List.map_cons, List.map_nil, List.getD_cons_zero, List.getD_cons_succ, List.set_cons_zero, List.set_cons_succ, List.getElem?_cons_zero, List.getElem?_cons_succ, List.length_cons, List.length_nil, List.cons_append, List.nil_append, Nat.reduceAdd, true_and, Bool.false_eq_true, Option.map_some, ↓reduceIte, Nat.zero_add, List.length_append, Nat.le_refl]
      simp (maxSteps := 2000000) (disch := first | omega | (simp only [List.length_append, List.length_cons, List.length_nil, List.length_map] <;> omega)) only [e1, sN, nbI, getA0, ev_ldA, List.drop_zero, List.take_succ_cons, List.take_zero, List.set_cons_zero, List.set_cons_succ, lpK_r, apO_some, flg_int, swp_seq, swp_reg, swp_ret, swp_cond, seqK_n, seqK_r, blkK_r, condK_t, evK_some, appK_eq, srun_nil, srun_cons, sk_mv, sk_give, sk_bin, sk_load, sk_store, get_mk, raw_slot, raw_lit, put_some, put_none, wb_nil, ev_mv, ev_give, bin_neq, ro_int, ro_agg, ro1_int, List.map_cons, List.map_nil, List.getD_cons_zero, List.getD_cons_succ, List.set_cons_zero, List.set_cons_succ, List.getElem?_cons_zero, List.length_cons, List.length_nil, Nat.reduceAdd, Bool.false_eq_true, ↓reduceIte, Nat.zero_add, Bool.not_false, Nat.le_refl]
      exact fn_fol (c := k) rfl ho rfl rfl rfl rfl (hall.trans step)
    · have e1' : accE k au l[i] own = 0 := by simpa using e1
      rw [if_pos e1'] at step
      have xc : accC k au l[i] hs[i] own = ⟨l[i].ve, hs[i], l[i].ne, l[i].se⟩ := by unfold accC; rw [if_pos e1']
      rw [xc] at step
      simp (maxSteps := 2000000) (disch := first | omega | (simp only [List.length_append, List.length_cons, List.length_nil, List.length_map] <;> omega)) only [hd, d2, y1, y2, z1, q1, q5, u1, u5, w1, List.set_cons_zero, List.set_cons_succ, flg_int, exc_int, sk_idxB, swp_seq, swp_reg, swp_skip, swp_block, swp_cond, seqK_n, condK_t, evK_some, appK_eq, srun_nil, srun_cons, sk_mv, sk_take, sk_give, sk_bin, sk_idxA, sk_load, sk_lenL, get_mk, raw_slot, raw_lit, put_some, wb_nil, ev_mv, ev_take, ev_give, bin_lss, ro_int, got_int, List.map_cons, List.map_nil, List.getD_cons_zero, List.getD_cons_succ, List.set_cons_zero, List.set_cons_succ, List.length_cons, List.length_nil, List.replicate_succ, List.replicate_zero, List.cons_append, List.nil_append, Nat.reduceAdd, Bool.false_eq_true, ↓reduceIte, Nat.zero_add, List.length_append]
      apply swp_to
      · repeat' first
          | exact swp_ttI
          | refine swp_bothI ?_ ?_
          | (refine callK_intro (n12c (c := k) (hmo.mono _) hmf (wk _) hwl (okSt_appL ho rfl)) ?_; rw [xc, e1'])
          | exact ⟨rfl, rfl⟩
          | exact rfl
          | simp (maxSteps := 2000000) (disch := first | omega | (simp only [List.length_append, List.length_cons, List.length_nil, List.length_map] <;> omega)) only [ro2_aggC, Cu.cells, z2, z3, sX, w2, w3, getA0, ev_ldA, List.drop_zero, List.take_succ_cons, List.take_zero, List.append_assoc, List.set_cons_zero, List.set_cons_succ, apO_some, flg_int, flg_agg, exc_int, exc_agg, swp_seq, swp_reg, seqK_n, evK_some, appK_eq, appC_eq, srun_nil, srun_cons, stepK_call, sk_mv, sk_give, sk_load, sk_store, sk_alloc, sk_ext, get_mk, raw_slot, put_some, put_none, wb_nil, ev_mv, ev_give, ev_ext, ev_alloc, ro_int, ro_agg, ro_tup, ro1_int, ro2_int, got_int, got_agg, pubs, pubsFrom, List.map_cons, List.map_nil, List.getD_cons_zero, List.getD_cons_succ, List.set_cons_zero, List.set_cons_succ, List.getElem?_cons_zero, List.getElem?_cons_succ, List.length_cons, List.length_nil, List.cons_append, List.nil_append, Nat.reduceAdd, true_and, Bool.false_eq_true, Option.map_some, ↓reduceIte, Nat.zero_add, List.length_append, Nat.le_refl]
      simp (maxSteps := 2000000) (disch := first | omega | (simp only [List.length_append, List.length_cons, List.length_nil, List.length_map] <;> omega)) only [s0, getA, ev_ldA, List.drop_zero, List.take_succ_cons, List.take_zero, List.set_cons_zero, List.set_cons_succ, lpK_n, apO_some, flg_int, swp_seq, swp_reg, swp_skip, swp_cond, seqK_n, blkK_n, condK_f, evK_some, appK_eq, srun_nil, srun_cons, sk_mv, sk_give, sk_bin, sk_load, sk_store, get_mk, raw_slot, raw_lit, put_some, put_none, wb_nil, ev_mv, ev_give, bin_add, bin_neq, ro_int, ro_agg, ro1_int, List.map_cons, List.map_nil, List.getD_cons_zero, List.getD_cons_succ, List.set_cons_zero, List.set_cons_succ, List.getElem?_cons_zero, List.getElem?_cons_succ, List.length_cons, List.length_nil, Nat.reduceAdd, Bool.false_eq_true, ↓reduceIte, Nat.zero_add, bne_self_eq_false, wrap_i64, Nat.le_refl]
      refine ⟨_, Forget.cutA (l := [_, _]) (x := [_]) ?_ (by simp) ?_ (o2 ⟨l[i].ve, hs[i], l[i].ne, l[i].se⟩), ⟨i + 1, ⟨l[i].ve, hs[i], l[i].ne, l[i].se⟩, by omega, hall.trans step, rfl⟩, by exact fin⟩
      · repeat first | exact fg_e | refine fg_d ?_ | refine fg_k rfl ?_
      · simp [idOks, idOk, i1, i2, i3]
  · have d2 : decide ((i : Int) < (hs.length : Int)) = false := by rw [decide_eq_false_iff_not]; omega
    have eh : hs.getD i 0 = 0 := by rw [List.getD_eq_getElem?_getD, List.getElem?_eq_none (by omega)]; rfl
    rw [eh] at step
    rcases bf (accE k au l[i] own == 0) with e1 | e1
    · have e1' : ¬ accE k au l[i] own = 0 := by simpa using e1
      rw [if_neg e1'] at step
      have xc : accC k au l[i] 0 own = k := by unfold accC; rw [if_neg e1']
      simp (maxSteps := 2000000) (disch := first | omega | (simp only [List.length_append, List.length_cons, List.length_nil, List.length_map] <;> omega)) only [hd, d2, z1, q1, q5, u1, u5, w1, List.set_cons_zero, List.set_cons_succ, exc_int, swp_seq, swp_reg, swp_skip, swp_block, swp_cond, seqK_n, condK_t, condK_f, evK_some, appK_eq, srun_nil, srun_cons, sk_mv, sk_take, sk_bin, sk_idxA, sk_lenL, get_mk, raw_slot, raw_lit, put_some, wb_nil, ev_mv, ev_take, bin_lss, ro_int, got_int, List.map_cons, List.map_nil, List.getD_cons_zero, List.getD_cons_succ, List.set_cons_zero, List.set_cons_succ, List.length_cons, List.length_nil, List.replicate_succ, List.replicate_zero, List.cons_append, List.nil_append, Nat.reduceAdd, Bool.false_eq_true, ↓reduceIte, Nat.zero_add, List.length_append]
      apply swp_to
      · repeat' first
          | exact swp_ttI
          | refine swp_bothI ?_ ?_
          | (refine callK_intro (n12c (c := k) (hmo.mono _) hmf (wk _) hwl (okSt_appL ho rfl)) ?_; rw [xc])
          | exact ⟨rfl, rfl⟩
          | exact rfl
          | simp (maxSteps := 2000000) (disch := first | omega | (simp only [List.length_append, List.length_cons, List.length_nil, List.length_map] <;> omega)) only [ro2_aggC, Cu.cells, z2, z3, sX, w2, w3, getA0, ev_ldA, List.drop_zero, List.take_succ_cons, List.take_zero, List.append_assoc, List.set_cons_zero, List.set_cons_succ, apO_some, flg_int, flg_agg, exc_int, exc_agg, swp_seq, swp_reg, seqK_n, evK_some, appK_eq, appC_eq, srun_nil, srun_cons, stepK_call, sk_mv, sk_give, sk_load, sk_store, sk_alloc, sk_ext, get_mk, raw_slot, put_some, put_none, wb_nil, ev_mv, ev_give, ev_ext, ev_alloc, ro_int, ro_agg, ro_tup, ro1_int, ro2_int, got_int, got_agg, pubs, pubsFrom, List.map_cons, List.map_nil, List.getD_cons_zero, List.getD_cons_succ, List.set_cons_zero, List.set_cons_succ, List.getElem?_cons_zero, List.getElem?_cons_succ, List.length_cons, List.length_nil, List.cons_append, List.nil_append, Nat.reduceAdd, true_and, Bool.false_eq_true, Option.map_some, ↓reduceIte, Nat.zero_add, List.length_append, Nat.le_refl]
      simp (maxSteps := 2000000) (disch := first | omega | (simp only [List.length_append, List.length_cons, List.length_nil, List.length_map] <;> omega)) only [e1, sN, nbI, getA0, ev_ldA, List.drop_zero, List.take_succ_cons, List.take_zero, List.set_cons_zero, List.set_cons_succ, lpK_r, apO_some, flg_int, swp_seq, swp_reg, swp_ret, swp_cond, seqK_n, seqK_r, blkK_r, condK_t, evK_some, appK_eq, srun_nil, srun_cons, sk_mv, sk_give, sk_bin, sk_load, sk_store, get_mk, raw_slot, raw_lit, put_some, put_none, wb_nil, ev_mv, ev_give, bin_neq, ro_int, ro_agg, ro1_int, List.map_cons, List.map_nil, List.getD_cons_zero, List.getD_cons_succ, List.set_cons_zero, List.set_cons_succ, List.getElem?_cons_zero, List.length_cons, List.length_nil, Nat.reduceAdd, Bool.false_eq_true, ↓reduceIte, Nat.zero_add, Bool.not_false, Nat.le_refl]
      exact fn_fol (c := k) rfl ho rfl rfl rfl rfl (hall.trans step)
    · have e1' : accE k au l[i] own = 0 := by simpa using e1
      rw [if_pos e1'] at step
      have xc : accC k au l[i] 0 own = ⟨l[i].ve, 0, l[i].ne, l[i].se⟩ := by unfold accC; rw [if_pos e1']
      rw [xc] at step
      simp (maxSteps := 2000000) (disch := first | omega | (simp only [List.length_append, List.length_cons, List.length_nil, List.length_map] <;> omega)) only [hd, d2, z1, q1, q5, u1, u5, w1, List.set_cons_zero, List.set_cons_succ, exc_int, swp_seq, swp_reg, swp_skip, swp_block, swp_cond, seqK_n, condK_t, condK_f, evK_some, appK_eq, srun_nil, srun_cons, sk_mv, sk_take, sk_bin, sk_idxA, sk_lenL, get_mk, raw_slot, raw_lit, put_some, wb_nil, ev_mv, ev_take, bin_lss, ro_int, got_int, List.map_cons, List.map_nil, List.getD_cons_zero, List.getD_cons_succ, List.set_cons_zero, List.set_cons_succ, List.length_cons, List.length_nil, List.replicate_succ, List.replicate_zero, List.cons_append, List.nil_append, Nat.reduceAdd, Bool.false_eq_true, ↓reduceIte, Nat.zero_add, List.length_append]
      apply swp_to
      · repeat' first
          | exact swp_ttI
          | refine swp_bothI ?_ ?_
          | (refine callK_intro (n12c (c := k) (hmo.mono _) hmf (wk _) hwl (okSt_appL ho rfl)) ?_; rw [xc, e1'])
          | exact ⟨rfl, rfl⟩
          | exact rfl
          | simp (maxSteps := 2000000) (disch := first | omega | (simp only [List.length_append, List.length_cons, List.length_nil, List.length_map] <;> omega)) only [ro2_aggC, Cu.cells, z2, z3, sX, w2, w3, getA0, ev_ldA, List.drop_zero, List.take_succ_cons, List.take_zero, List.append_assoc, List.set_cons_zero, List.set_cons_succ, apO_some, flg_int, flg_agg, exc_int, exc_agg, swp_seq, swp_reg, seqK_n, evK_some, appK_eq, appC_eq, srun_nil, srun_cons, stepK_call, sk_mv, sk_give, sk_load, sk_store, sk_alloc, sk_ext, get_mk, raw_slot, put_some, put_none, wb_nil, ev_mv, ev_give, ev_ext, ev_alloc, ro_int, ro_agg, ro_tup, ro1_int, ro2_int, got_int, got_agg, pubs, pubsFrom, List.map_cons, List.map_nil, List.getD_cons_zero, List.getD_cons_succ, List.set_cons_zero, List.set_cons_succ, List.getElem?_cons_zero, List.getElem?_cons_succ, List.length_cons, List.length_nil, List.cons_append, List.nil_append, Nat.reduceAdd, true_and, Bool.false_eq_true, Option.map_some, ↓reduceIte, Nat.zero_add, List.length_append, Nat.le_refl]
      simp (maxSteps := 2000000) (disch := first | omega | (simp only [List.length_append, List.length_cons, List.length_nil, List.length_map] <;> omega)) only [s0, getA, ev_ldA, List.drop_zero, List.take_succ_cons, List.take_zero, List.set_cons_zero, List.set_cons_succ, lpK_n, apO_some, flg_int, swp_seq, swp_reg, swp_skip, swp_cond, seqK_n, blkK_n, condK_f, evK_some, appK_eq, srun_nil, srun_cons, sk_mv, sk_give, sk_bin, sk_load, sk_store, get_mk, raw_slot, raw_lit, put_some, put_none, wb_nil, ev_mv, ev_give, bin_add, bin_neq, ro_int, ro_agg, ro1_int, List.map_cons, List.map_nil, List.getD_cons_zero, List.getD_cons_succ, List.set_cons_zero, List.set_cons_succ, List.getElem?_cons_zero, List.getElem?_cons_succ, List.length_cons, List.length_nil, Nat.reduceAdd, Bool.false_eq_true, ↓reduceIte, Nat.zero_add, bne_self_eq_false, wrap_i64, Nat.le_refl]
      refine ⟨_, Forget.cutA (l := [_, _]) (x := [_]) ?_ (by simp) ?_ (o2 ⟨l[i].ve, 0, l[i].ne, l[i].se⟩), ⟨i + 1, ⟨l[i].ve, 0, l[i].ne, l[i].se⟩, by omega, hall.trans step, rfl⟩, by exact fin⟩
      · repeat first | exact fg_e | refine fg_d ?_ | refine fg_k rfl ?_
      · simp [idOks, idOk, i1, i2, i3]
def O108 : Orc := O107.add 15 (StC KFol)
theorem s108 : Sound Tryd.prog O108 := s107.addS c15 (by kernel_rfl) (by
  rintro args r st ⟨c, au, v, l, hv, hs, ov, own, h1, h2, h3, h4, h5, ho, rfl, rfl⟩
  exact ⟨by simp [sf15], g15 c au v l hv hs ov own st h1 h2 h3 h4 h5 ho⟩)
end Go.Sh.F
