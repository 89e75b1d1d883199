/-
  Records: which manifests are right, in the shadow machine.
  Records: the document's Right; rows of numbers, manifests that are the same, in the shadow machine.
  Chains: digests of own versions, what links must be, in the shadow machine.
  Chains: Accept, in the shadow machine.
  Chains: the document's Accept; copies without pieces; Next without pieces, in the shadow machine.
-/
import Derived.Test.YtdoncjpkmjganaaDoorGa1
set_option linter.unusedSimpArgs false
set_option linter.unusedVariables false
namespace Go.Sh.F
open Go.PathLaw Go.Proofs
theorem Forget.cutA {k : Nat} {xs bs : List SV} {st l x : List Ob} (h : fg xs bs) (hk : k ≤ st.length + l.length) (hi : idOks (st.length + l.length) bs = true) (ho : okSt (st ++ l)) : Forget k ⟨xs, st ++ (l ++ x)⟩ ⟨bs, st ++ l⟩ := by
  rw [← List.length_append] at hk hi
  refine Forget.cut h hk ?_ hi ho
  rw [← List.append_assoc, List.take_left]
theorem leq_strs {st : List Ob} {x y : List UInt8} : ev st (.bin .leq) [.str x, .str y] = some (.bool (!(lt y x)), [], st) := by rw [bin_leqS, leq_lt]
theorem plen (p : Pc) : p.cells.length = 7 := rfl
theorem ptake (p : Pc) : p.cells.take 7 = p.cells := rfl
theorem pget0 (p : Pc) : p.cells[0]? = some (.str p.path) := rfl
theorem pget1 (p : Pc) : p.cells[1]? = some (.bool p.has) := rfl
theorem pget2 (p : Pc) : p.cells[2]? = some (.int .i64 p.size) := rfl
theorem pget3 (p : Pc) : p.cells[3]? = some p.cv := rfl
theorem pget4 (p : Pc) : p.cells[4]? = some (.int .i64 p.dig) := rfl
theorem pclk (p : Pc) : (p.cells.drop 5).take 2 = [.int .i64 p.cl, .int .i64 p.cr] := rfl
theorem Mf.ok.idp {st : List Ob} {m : Mf} (h : m.ok st) (n : Nat) : idOk (st.length + n) m.pv = true := idOk_mono (Nat.le_add_right _ _) _ (h.1.idOk (idOks_flat h.2.2))
def O34 : Orc := O33.add 20 (StC fun st args r => ∃ m : Mf, m.ok st ∧ okSt st ∧ args = [.agg m.cells] ∧ r = .bool (fewM m))
theorem s34 : Sound Tryd.prog O34 := s33.addS c20 (by kernel_rfl) (by
  rintro args r st ⟨m, hm, ho, rfl, rfl⟩
  exact ⟨by simp [sf20], g20 _ m st hm ho⟩)
theorem wrap1 {v : Int} : (decide (1 ≤ v) && decide (v ≤ 200)) = wth 199 (v - 1) := by
  unfold wth
  rw [Bool.eq_iff_iff]
  simp only [Bool.and_eq_true, decide_eq_true_eq]
  omega
theorem wth_wrap {v : Int} (h : -9223372036854775808 ≤ v) (h2 : v ≤ 9223372036854775807) : wth 199 (IntKind.i64.wrap (v - 1)) = wth 199 (v - 1) := by
  by_cases e : v = -9223372036854775808
  · subst e; decide
  · rw [wrap_i64 (by omega) (by omega)]
theorem next_wth {ne ep : Int} (h1 : wth 100 ep = true) (h2 : wth 100 ne = true) : (ne == ep || ne == ep + 1) = wth 1 (ne - ep) := by
  simp only [wth, Bool.and_eq_true, decide_eq_true_eq] at h1 h2
  unfold wth
  rw [Bool.eq_iff_iff]
  simp only [Bool.or_eq_true, beq_iff_eq, Bool.and_eq_true, decide_eq_true_eq]
  omega
def Mf.fit (m : Mf) : Prop := -9223372036854775808 ≤ m.ve ∧ m.ve ≤ 9223372036854775807
theorem r27 {p : Pc} {st : List Ob} (hp : p.ok st) (ho : okSt st) : O34 27 [.agg p.cells] st (.bool (rightP p)) st := (by repeat first | exact Or.inr ⟨rfl, rfl, p, hp, ho, rfl, rfl⟩ | refine Or.inl ?_)
theorem r36 {p : Pc} {st : List Ob} (hp : p.ok st) (ho : okSt st) : O34 36 [.agg p.cells] st (.bool (rightP p)) st := (by repeat first | exact Or.inr ⟨rfl, rfl, p, hp, ho, rfl, rfl⟩ | refine Or.inl ?_)
set_option maxHeartbeats 16000000 in
theorem g19 (m : Mf) (st : List Ob) (hm : m.ok st) (hf : m.fit) (ho : okSt st) : swpF O34 sf19 [.agg m.cells] st (fun r st' => r = .bool (rightM m) ∧ st' = st) := by
  have o1 := okM hm ho
  have o2 := fun i (hi : i < m.ps.length) => okP ((hm.2.2 _ (List.getElem_mem hi)).mono [.cells m.cells]) o1
  have pk := fun i (hi : i < m.ps.length) => (hm.2.2 _ (List.getElem_mem hi)).mono [.cells m.cells, .cells m.ps[i].cells]
  have a0 := fun i (hi : i < m.ps.length) => hm.at' hi [.cells m.cells]
  have a1 := fun i (hi : i < m.ps.length) z => hm.path hi [.cells m.cells, z]
  have f0 := fun i (hi : i < m.ps.length) => hm.f0 hi
  have ib := fun i (hi : i < m.ps.length) => hm.1.idxB hi .i64
  have ia := fun i (hi : i < m.ps.length) => hm.1.idxA hi .i64
  have sa := fun i (hi : i < m.ps.length) z => st_aggA (st := st) (l := [z, .cells [.str [], .bool false, .int .i64 0, .nilS, .int .i64 0, .int .i64 0, .int .i64 0]]) (i := 1) (n := 7) (b := true) (xs := m.ps[i].cells) rfl (ro1_pc (hm.2.2 _ (List.getElem_mem hi))) (cell_pc (hm.2.2 _ (List.getElem_mem hi))) rfl rfl
  have ro7 := fun i (hi : i < m.ps.length) => ro1_pc (hm.2.2 _ (List.getElem_mem hi))
  have idp := hm.idp 1
  have hb := hm.2.1
  obtain ⟨q1, q2, q3, q4, q6, q7⟩ := hm.1.facts
  have q5 := hm.1.lenL
  obtain ⟨au, ve, pr, ep, ne, se, sh, pv, ps⟩ := m
  simp only [Mf.cells, Mf.fit] at idp o1 o2 pk a0 a1 f0 ib ia sa ro7 q1 q2 q3 q4 q5 q6 q7 hb hf ⊢
  simp (maxSteps := 2000000) (disch := first | omega | (simp only [List.length_append, List.length_cons, List.length_nil, List.length_map] <;> omega)) only [sf19, q6, q7, cv_agg, cv_int, cell_int, getA0, Nat.add_zero, List.set_cons_zero, List.set_cons_succ, pub_excl2, flg_bool, exc_int, exc_agg, exc_excl, swp_seq, swp_reg, seqK_n, evK_some, appK_eq, srun_nil, srun_cons, stepK_call, swpF_eq, sk_give, sk_fld, sk_load, sk_bsl, sk_box, get_mk, raw_slot, raw_lit, put_some, wb_nil, ev_give, ev_fld, ev_bsl, ev_box, ev_ldP, ldP_some, ro_int, ro_bool, ro1_int, got_excl, got_int, got_agg, pubs, pubsFrom, List.map_cons, List.map_nil, List.getD_cons_zero, List.getD_cons_succ, List.set_cons_zero, List.set_cons_succ, List.getElem?_cons_zero, List.length_cons, List.length_nil, List.replicate_succ, List.replicate_zero, List.cons_append, List.nil_append, Nat.reduceSub, Nat.reduceLT, and_true, Bool.false_eq_true, Option.map_some, ↓reduceIte, List.all_cons, List.all_nil, Bool.and_self, List.zip_cons_cons, List.zip_nil_right, rep, fillV, wrCells, List.flatten_cons, List.flatten_nil, List.append_nil, decide_true, Nat.mul_one, Nat.zero_add, Nat.le_refl]
  refine callK_intro ((.inl (.inl (.inl (r26a (by simp) o1))))) ?_
  rcases bf (wth 1 au) with h1 | h1
  · rw [h1]
    simp (maxSteps := 2000000) (disch := first | omega | (simp only [List.length_append, List.length_cons, List.length_nil, List.length_map] <;> omega)) only [List.set_cons_zero, List.set_cons_succ, flg_bool, swp_seq, swp_reg, swp_ret, swp_cond, seqK_n, seqK_r, condK_t, evK_some, appK_eq, appC_eq, grd_t, srun_nil, srun_cons, stepK_grd, fin_ret, sk_mv, sk_give, sk_pick, sk_un, get_mk, raw_slot, raw_lit, put_some, wb_nil, wb_cons, ev_mv, ev_give, ev_pick, ev_not, ro_bool, List.map_cons, List.map_nil, List.getD_cons_zero, List.getD_cons_succ, List.set_cons_zero, List.set_cons_succ, List.getElem?_cons_zero, List.getElem?_cons_succ, Bool.false_eq_true, ↓reduceIte, reduceCtorEq, Bool.not_false]
    first | exact ⟨_, trim1 ho rfl, by simp [rightM, headM, h1], rfl⟩ | exact ⟨_, trim1 ho rfl, by simp [rightM, headM, h1]⟩ | exact ⟨_, .same, by simp [rightM, headM, h1], rfl⟩
  rw [h1]
  simp (maxSteps := 2000000) (disch := first | omega | (simp only [List.length_append, List.length_cons, List.length_nil, List.length_map] <;> omega)) only [bin_sub, cv_int, cell_int, getA0, List.set_cons_zero, List.set_cons_succ, pub_excl2, exc_int, exc_excl, evK_some, appK_eq, appC_eq, grd_t, srun_cons, stepK_call, stepK_grd, sk_mv, sk_bin, sk_un, sk_fld, sk_load, sk_bsl, get_mk, raw_slot, raw_lit, put_some, wb_nil, wb_cons, ev_mv, ev_not, ev_fld, bin_sub, ev_bsl, ev_ldP, ldP_some, ro_int, ro_bool, got_excl, got_int, pubs, pubsFrom, List.map_cons, List.map_nil, List.getD_cons_zero, List.getD_cons_succ, List.set_cons_zero, List.set_cons_succ, List.getElem?_cons_zero, List.getElem?_cons_succ, List.length_cons, List.length_nil, List.replicate_succ, List.replicate_zero, Nat.reduceLT, and_true, Bool.false_eq_true, Option.map_some, ↓reduceIte, List.all_cons, List.all_nil, Bool.and_self, List.zip_cons_cons, List.zip_nil_right, rep, fillV, wrCells, List.flatten_cons, List.flatten_nil, List.append_nil, decide_true, Nat.mul_one, Nat.zero_add, Bool.not_true, Nat.le_refl]
  refine callK_intro ((.inl (.inl (.inl (r26a (by simp) o1))))) ?_
  rw [wth_wrap hf.1 hf.2]
  have ew := wrap1 (v := ve)
  rcases bf (wth 199 (ve - 1)) with h2 | h2
  · rw [h2] at ew ⊢
    simp (maxSteps := 2000000) (disch := first | omega | (simp only [List.length_append, List.length_cons, List.length_nil, List.length_map] <;> omega)) only [List.set_cons_zero, List.set_cons_succ, flg_bool, swp_seq, swp_reg, swp_ret, swp_cond, seqK_n, seqK_r, condK_t, evK_some, appK_eq, appC_eq, grd_t, srun_nil, srun_cons, stepK_grd, fin_ret, sk_mv, sk_give, sk_pick, sk_un, get_mk, raw_slot, raw_lit, put_some, wb_nil, wb_cons, ev_mv, ev_give, ev_pick, ev_not, ro_bool, List.map_cons, List.map_nil, List.getD_cons_zero, List.getD_cons_succ, List.set_cons_zero, List.set_cons_succ, List.getElem?_cons_zero, List.getElem?_cons_succ, Bool.false_eq_true, ↓reduceIte, reduceCtorEq, Bool.not_false]
    first | exact ⟨_, trim1 ho rfl, by simp [rightM, headM, h1, ew], rfl⟩ | exact ⟨_, trim1 ho rfl, by simp [rightM, headM, h1, ew]⟩ | exact ⟨_, .same, by simp [rightM, headM, h1, ew], rfl⟩
  rw [h2] at ew ⊢
  simp (maxSteps := 2000000) (disch := first | omega | (simp only [List.length_append, List.length_cons, List.length_nil, List.length_map] <;> omega)) only [cv_int, cell_int, getA0, List.set_cons_zero, List.set_cons_succ, pub_excl2, exc_int, exc_excl, evK_some, appK_eq, appC_eq, grd_t, srun_cons, stepK_call, stepK_grd, sk_mv, sk_pick, sk_un, sk_fld, sk_load, sk_bsl, get_mk, raw_slot, raw_lit, put_some, wb_nil, wb_cons, ev_mv, ev_pick, ev_not, ev_fld, ev_bsl, ev_ldP, ldP_some, ro_int, ro_bool, got_excl, got_int, pubs, pubsFrom, List.map_cons, List.map_nil, List.getD_cons_zero, List.getD_cons_succ, List.set_cons_zero, List.set_cons_succ, List.getElem?_cons_zero, List.getElem?_cons_succ, List.length_cons, List.length_nil, List.replicate_succ, List.replicate_zero, List.cons_append, List.nil_append, Nat.reduceAdd, Nat.reduceLeDiff, Nat.reduceLT, and_true, Bool.false_eq_true, Option.map_some, ↓reduceIte, List.all_cons, List.all_nil, Bool.and_self, List.zip_cons_cons, List.zip_nil_right, rep, fillV, wrCells, List.flatten_cons, List.flatten_nil, List.append_nil, decide_true, Nat.mul_one, Nat.zero_add, Bool.not_true, Nat.le_refl]
  refine callK_intro ((.inl (.inl (.inl (r26c (by simp) o1))))) ?_
  rcases bf (wth 4294967295 pr && (wth 4294967295 se && wth 4294967295 sh)) with h3 | h3
  · rw [h3]
    have e3 : (wth 4294967295 pr && wth 4294967295 se && wth 4294967295 sh) = false := by rw [Bool.and_assoc]; exact h3
    have e4 : rightM ⟨au, ve, pr, ep, ne, se, sh, pv, ps⟩ = false := by
      cases z1 : wth 4294967295 pr <;> cases z2 : wth 4294967295 se <;> cases z3 : wth 4294967295 sh <;> simp [z1, z2, z3] at h3 <;> simp [rightM, headM, z1, z2, z3]
    rw [e4]
    simp (maxSteps := 2000000) (disch := first | omega | (simp only [List.length_append, List.length_cons, List.length_nil, List.length_map] <;> omega)) only [List.set_cons_zero, List.set_cons_succ, flg_bool, swp_seq, swp_reg, swp_ret, swp_cond, seqK_n, seqK_r, condK_t, evK_some, appK_eq, appC_eq, grd_t, srun_nil, srun_cons, stepK_grd, fin_ret, sk_mv, sk_give, sk_pick, sk_un, get_mk, raw_slot, raw_lit, put_some, wb_nil, wb_cons, ev_mv, ev_give, ev_pick, ev_not, ro_bool, List.map_cons, List.map_nil, List.getD_cons_zero, List.getD_cons_succ, List.set_cons_zero, List.set_cons_succ, List.getElem?_cons_zero, List.getElem?_cons_succ, true_and, Bool.false_eq_true, ↓reduceIte, reduceCtorEq, Bool.not_false]
    first | exact ⟨_, trim1 ho rfl⟩ | exact ⟨_, trim1 ho rfl, rfl⟩ | exact ⟨_, trim1 ho rfl, rfl, rfl⟩ | exact ⟨_, trim1 ho rfl, by simp, rfl⟩ | exact ⟨_, trim1 ho rfl, by simp⟩
  rw [h3]
  simp only [Bool.and_eq_true] at h3
  simp (maxSteps := 2000000) (disch := first | omega | (simp only [List.length_append, List.length_cons, List.length_nil, List.length_map] <;> omega)) only [cv_int, cell_int, getA0, List.set_cons_zero, List.set_cons_succ, pub_excl2, exc_int, exc_excl, evK_some, appK_eq, appC_eq, grd_t, srun_cons, stepK_call, stepK_grd, sk_mv, sk_pick, sk_un, sk_fld, sk_load, sk_bsl, get_mk, raw_slot, raw_lit, put_some, wb_nil, wb_cons, ev_mv, ev_pick, ev_not, ev_fld, ev_bsl, ev_ldP, ldP_some, ro_int, ro_bool, got_excl, got_int, pubs, pubsFrom, List.map_cons, List.map_nil, List.getD_cons_zero, List.getD_cons_succ, List.set_cons_zero, List.set_cons_succ, List.getElem?_cons_zero, List.getElem?_cons_succ, List.length_cons, List.length_nil, List.replicate_succ, List.replicate_zero, List.cons_append, List.nil_append, Nat.reduceAdd, Nat.reduceLeDiff, Nat.reduceLT, and_true, Bool.false_eq_true, Option.map_some, ↓reduceIte, List.all_cons, List.all_nil, Bool.and_self, List.zip_cons_cons, List.zip_nil_right, rep, fillV, wrCells, List.flatten_cons, List.flatten_nil, List.append_nil, decide_true, Nat.mul_one, Nat.zero_add, Bool.not_true, Nat.le_refl]
  refine callK_intro ((.inl (.inl (.inl (r26b (by simp) o1))))) ?_
  rcases bf (wth 100 ep && wth 100 ne) with h4 | h4
  · rw [h4]
    have e4 : rightM ⟨au, ve, pr, ep, ne, se, sh, pv, ps⟩ = false := by
      cases z1 : wth 100 ep <;> cases z2 : wth 100 ne <;> simp [z1, z2] at h4 <;> simp [rightM, headM, z1, z2]
    rw [e4]
    simp (maxSteps := 2000000) (disch := first | omega | (simp only [List.length_append, List.length_cons, List.length_nil, List.length_map] <;> omega)) only [List.set_cons_zero, List.set_cons_succ, flg_bool, swp_seq, swp_reg, swp_ret, swp_cond, seqK_n, seqK_r, condK_t, evK_some, appK_eq, appC_eq, grd_t, srun_nil, srun_cons, stepK_grd, fin_ret, sk_mv, sk_give, sk_pick, sk_un, get_mk, raw_slot, raw_lit, put_some, wb_nil, wb_cons, ev_mv, ev_give, ev_pick, ev_not, ro_bool, List.map_cons, List.map_nil, List.getD_cons_zero, List.getD_cons_succ, List.set_cons_zero, List.set_cons_succ, List.getElem?_cons_zero, List.getElem?_cons_succ, true_and, Bool.false_eq_true, ↓reduceIte, reduceCtorEq, Bool.not_false]
    first | exact ⟨_, trim1 ho rfl⟩ | exact ⟨_, trim1 ho rfl, rfl⟩ | exact ⟨_, trim1 ho rfl, rfl, rfl⟩ | exact ⟨_, trim1 ho rfl, by simp, rfl⟩ | exact ⟨_, trim1 ho rfl, by simp⟩
  rw [h4]
  simp only [Bool.and_eq_true] at h4
  have en := next_wth h4.1 h4.2
  have r100 : -100 ≤ ne - ep ∧ ne - ep ≤ 100 := by
    simp only [wth, Bool.and_eq_true, decide_eq_true_eq] at h4; omega
  simp (maxSteps := 2000000) (disch := first | omega | (simp only [List.length_append, List.length_cons, List.length_nil, List.length_map] <;> omega)) only [cv_int, cell_int, getA0, List.set_cons_zero, List.set_cons_succ, pub_excl2, exc_int, exc_excl, evK_some, appK_eq, appC_eq, grd_t, srun_cons, stepK_call, stepK_grd, sk_mv, sk_pick, sk_bin, sk_un, sk_fld, sk_load, sk_bsl, get_mk, raw_slot, raw_lit, put_some, wb_nil, wb_cons, ev_mv, ev_pick, ev_not, ev_fld, bin_sub, ev_bsl, ev_ldP, ldP_some, ro_int, ro_bool, got_excl, got_int, pubs, pubsFrom, List.map_cons, List.map_nil, List.getD_cons_zero, List.getD_cons_succ, List.set_cons_zero, List.set_cons_succ, List.getElem?_cons_zero, List.getElem?_cons_succ, List.length_cons, List.length_nil, List.replicate_succ, List.replicate_zero, Nat.reduceLT, and_true, Bool.false_eq_true, Option.map_some, ↓reduceIte, List.all_cons, List.all_nil, Bool.and_self, List.zip_cons_cons, List.zip_nil_right, rep, fillV, wrCells, List.flatten_cons, List.flatten_nil, List.append_nil, decide_true, Nat.mul_one, Nat.zero_add, Bool.not_true, wrap_i64, Nat.le_refl]
  refine callK_intro ((.inl (.inl (.inl (r26a (by simp) o1))))) ?_
  rcases bf (wth 1 (ne - ep)) with h5 | h5
  · rw [h5] at en ⊢
    simp (maxSteps := 2000000) (disch := first | omega | (simp only [List.length_append, List.length_cons, List.length_nil, List.length_map] <;> omega)) only [List.set_cons_zero, List.set_cons_succ, flg_bool, swp_seq, swp_reg, swp_ret, swp_cond, seqK_n, seqK_r, condK_t, evK_some, appK_eq, appC_eq, grd_t, srun_nil, srun_cons, stepK_grd, fin_ret, sk_give, sk_pick, sk_un, get_mk, raw_slot, raw_lit, put_some, wb_nil, wb_cons, ev_give, ev_pick, ev_not, ro_bool, List.map_cons, List.map_nil, List.getD_cons_zero, List.getD_cons_succ, List.set_cons_zero, List.set_cons_succ, List.getElem?_cons_zero, List.getElem?_cons_succ, Bool.false_eq_true, ↓reduceIte, Bool.not_false]
    first | exact ⟨_, trim1 ho rfl, by simp [rightM, headM, en], rfl⟩ | exact ⟨_, trim1 ho rfl, by simp [rightM, headM, en]⟩ | exact ⟨_, .same, by simp [rightM, headM, en], rfl⟩
  rw [h5] at en ⊢
  have eh : headM ⟨au, ve, pr, ep, ne, se, sh, pv, ps⟩ = true := by
    unfold headM; simp only [h1, ew, h3.1, h3.2.1, h3.2.2, h4.1, h4.2, en, Bool.and_self]
  simp (maxSteps := 2000000) (disch := first | omega | (simp only [List.length_append, List.length_cons, List.length_nil, List.length_map] <;> omega)) only [q1, q5, getA0, List.set_cons_zero, List.set_cons_succ, swp_seq, swp_reg, swp_skip, swp_block, swp_cond, seqK_n, condK_f, evK_some, appK_eq, appC_eq, grd_t, srun_nil, srun_cons, stepK_grd, sk_mv, sk_pick, sk_un, sk_fld, sk_load, sk_lenL, get_mk, raw_slot, raw_lit, put_some, wb_nil, wb_cons, ev_mv, ev_pick, ev_not, ev_fld, ev_ldP, ldP_some, ro_int, ro_bool, List.map_cons, List.map_nil, List.getD_cons_zero, List.getD_cons_succ, List.set_cons_zero, List.set_cons_succ, List.getElem?_cons_zero, List.getElem?_cons_succ, Bool.false_eq_true, Option.map_some, ↓reduceIte, Nat.zero_add, Bool.not_true]
  refine swp_lp (fun S => ∃ (i : Nat), i ≤ ps.length ∧ rowsTo ps i ∧
      S = ⟨List.replicate 1 .undef ++ [.ptr st.length 0] ++ List.replicate 47 .undef ++ [pv, .int .i64 ps.length, .int .i64 i] ++ List.replicate 28 .undef, st ++ [.cells [.int .i64 au, .int .i64 ve, .int .i64 pr, .int .i64 ep, .int .i64 ne, .int .i64 se, .int .i64 sh, pv]]⟩)
      (fun S => match S.get 51 with | .int _ k => ((ps.length : Int) - k).toNat | _ => 0)
      ⟨List.replicate 1 .undef ++ [.ptr st.length 0] ++ List.replicate 47 .undef ++ [pv, .int .i64 ps.length, .int .i64 0] ++ List.replicate 28 .undef, st ++ [.cells [.int .i64 au, .int .i64 ve, .int .i64 pr, .int .i64 ep, .int .i64 ne, .int .i64 se, .int .i64 sh, pv]]⟩ ?_ ⟨0, Nat.zero_le _, fun j z h => by omega, rfl⟩ ?_
  · refine Forget.of ?_
    repeat first | exact fg_e | refine fg_d ?_ | refine fg_k rfl ?_
  rintro S ⟨i, hi, hall, rfl⟩
  by_cases him : i = ps.length
  · have hd : decide ((i : Int) < (ps.length : Int)) = false := by rw [decide_eq_false_iff_not]; omega
    rw [him] at hall
    have er := rowsTo_all hall
    simp (maxSteps := 2000000) (disch := first | omega | (simp only [List.length_append, List.length_cons, List.length_nil, List.length_map] <;> omega)) only [hd, q1, q5, getA0, List.set_cons_zero, List.set_cons_succ, lpK_e, flg_bool, swp_seq, swp_reg, swp_ret, swp_exit, swp_cond, seqK_n, seqK_e, blkK_e, condK_f, evK_some, appK_eq, srun_nil, srun_cons, fin_ret, sk_give, sk_bin, sk_fld, sk_load, sk_lenL, get_mk, raw_slot, raw_lit, put_some, wb_nil, ev_give, ev_fld, bin_lss, bin_leq, ev_ldP, ldP_some, ro_bool, List.map_cons, List.map_nil, List.getD_cons_zero, List.getD_cons_succ, List.set_cons_zero, List.set_cons_succ, List.getElem?_cons_zero, List.getElem?_cons_succ, List.length_cons, List.length_nil, List.replicate_succ, List.replicate_zero, List.cons_append, List.nil_append, Bool.false_eq_true, Option.map_some, ↓reduceIte, Nat.zero_add, List.length_append]
    exact ⟨_, trim1 ho rfl, by simp [rightM, eh, er]; omega, rfl⟩
  have hd : decide ((i : Int) < (ps.length : Int)) = true := by rw [decide_eq_true_eq]; omega
  have hil : i < ps.length := by omega
  have fin : ((ps.length : Int) - ((i + 1 : Nat) : Int)).toNat < ((ps.length : Int) - (i : Int)).toNat := by omega
  have b0 := a0 i hil
  have b1 := a1 i hil
  have b3 := f0 i hil
  have b5 := ib i hil
  have b6 := sa i hil
  have b7 := ro7 i hil
  simp (maxSteps := 2000000) (disch := first | omega | (simp only [List.length_append, List.length_cons, List.length_nil, List.length_map] <;> omega)) only [hd, b0, b5, b6, b7, plen, ptake, getA, ev_ldA, List.drop_zero, List.append_assoc, List.set_cons_zero, List.set_cons_succ, apO_some, exc_int, exc_agg, sk_idxB, swp_seq, swp_reg, swp_skip, swp_block, swp_cond, seqK_n, condK_t, evK_some, appK_eq, srun_nil, srun_cons, stepK_call, sk_mv, sk_take, sk_bin, sk_load, sk_store, sk_alloc, get_mk, raw_slot, put_some, put_none, wb_nil, ev_mv, ev_take, bin_lss, ev_alloc, ro_int, ro_agg, got_int, got_agg, pubs, pubsFrom, List.map_cons, List.map_nil, List.getD_cons_zero, List.getD_cons_succ, List.set_cons_zero, List.set_cons_succ, List.getElem?_cons_zero, List.getElem?_cons_succ, List.length_cons, List.length_nil, List.replicate_succ, List.replicate_zero, List.cons_append, List.nil_append, Bool.false_eq_true, ↓reduceIte, Nat.zero_add, List.length_append, Nat.le_refl]
  refine callK_intro (r27 (pk i hil) (by simpa using o2 i hil)) ?_
  rcases bf (rightP ps[i]) with e1 | e1
  · rw [e1]
    have er := rowsTo_not hil (by rw [e1]; simp)
    simp (maxSteps := 2000000) (disch := first | omega | (simp only [List.length_append, List.length_cons, List.length_nil, List.length_map] <;> omega)) only [List.set_cons_zero, List.set_cons_succ, lpK_r, flg_bool, grd_s, swp_seq, swp_reg, swp_ret, swp_cond, seqK_n, seqK_r, blkK_r, condK_t, evK_some, appK_eq, appC_eq, grd_t, srun_nil, srun_cons, stepK_grd, fin_ret, sk_mv, sk_give, sk_pick, sk_un, get_mk, raw_slot, raw_lit, put_some, wb_nil, ev_mv, ev_give, ev_pick, ev_not, ro_bool, List.map_cons, List.map_nil, List.getD_cons_zero, List.getD_cons_succ, List.set_cons_zero, List.set_cons_succ, Bool.false_eq_true, ↓reduceIte, reduceCtorEq, Bool.not_false]
    first | exact ⟨_, trim1 ho rfl, by simp [rightM, er], rfl⟩ | exact ⟨_, trim1 ho rfl, by simp [rightM, er]⟩ | exact ⟨_, .same, by simp [rightM, er], rfl⟩
  rw [e1]
  have oc := o1
  by_cases h0 : i = 0
  · have d0 : decide ((0 : Int) < (i : Int)) = false := by rw [decide_eq_false_iff_not]; omega
    simp (maxSteps := 2000000) (disch := first | omega | (simp only [List.length_append, List.length_cons, List.length_nil, List.length_map] <;> omega)) only [d0, List.set_cons_zero, List.set_cons_succ, lpK_n, swp_reg, swp_skip, swp_cond, seqK_n, blkK_n, condK_f, evK_some, appK_eq, appC_eq, grd_t, srun_nil, srun_cons, stepK_grd, sk_mv, sk_pick, sk_bin, sk_un, get_mk, raw_slot, raw_lit, put_some, wb_nil, ev_mv, ev_pick, ev_not, bin_add, bin_gtr, ro_int, ro_bool, List.map_cons, List.map_nil, List.getD_cons_zero, List.getD_cons_succ, List.set_cons_zero, List.set_cons_succ, Bool.false_eq_true, ↓reduceIte, Bool.not_true, gt_iff_lt, wrap_i64]
    refine ⟨_, Forget.cutA (l := [_]) (x := [_]) ?_ (by simp) ?_ o1, ⟨i + 1, by omega, rowsTo_succ hall hil e1 (fun _ h => by omega), rfl⟩, by exact fin⟩
    · repeat first | exact fg_e | refine fg_d ?_ | refine fg_k rfl ?_
    · simp [idOks, idOk, idp]
  · have d0 : decide ((0 : Int) < (i : Int)) = true := by rw [decide_eq_true_eq]; omega
    have hp : i - 1 < ps.length := by omega
    have ei : (i : Int) - 1 = ((i - 1 : Nat) : Int) := by omega
    have c5 := ia (i - 1) hp
    have c3 := f0 (i - 1) hp
    have c1 := a1 (i - 1) hp
    have b2 := b1
    rcases bf (lt ps[i - 1].path ps[i].path) with e2 | e2
    · have er := rowsTo_not hil (fun h => by rw [h.2 hp (by omega)] at e2; cases e2)
      simp (maxSteps := 2000000) (disch := first | omega | (simp only [List.length_append, List.length_cons, List.length_nil, List.length_map] <;> omega)) only [d0, ei, c5, c3, c1, pget0, leq_strs, e2, q1, getA0, getA, Nat.add_zero, List.set_cons_zero, List.set_cons_succ, lpK_r, flg_bool, swp_seq, swp_reg, swp_ret, swp_cond, seqK_n, seqK_r, blkK_r, condK_t, evK_some, appK_eq, appC_eq, grd_t, srun_nil, srun_cons, stepK_grd, fin_ret, sk_mv, sk_give, sk_pick, sk_bin, sk_un, sk_fld, sk_idxA, sk_load, get_mk, raw_slot, raw_lit, put_some, wb_nil, ev_mv, ev_give, ev_pick, ev_not, ev_fld, bin_sub, bin_gtr, ev_ldP, ldP_some, ro_int, ro_bool, ro_str, List.map_cons, List.map_nil, List.getD_cons_zero, List.getD_cons_succ, List.set_cons_zero, List.set_cons_succ, List.getElem?_cons_zero, List.getElem?_cons_succ, Bool.false_eq_true, Option.map_some, ↓reduceIte, Nat.zero_add, Bool.not_true, Bool.not_false, gt_iff_lt, wrap_i64]
      first | exact ⟨_, trim1 ho rfl, by simp [rightM, er], rfl⟩ | exact ⟨_, trim1 ho rfl, by simp [rightM, er]⟩ | exact ⟨_, .same, by simp [rightM, er], rfl⟩
    · simp (maxSteps := 2000000) (disch := first | omega | (simp only [List.length_append, List.length_cons, List.length_nil, List.length_map] <;> omega)) only [d0, ei, c5, c3, c1, pget0, leq_strs, e2, q1, getA0, getA, Nat.add_zero, List.set_cons_zero, List.set_cons_succ, lpK_n, swp_reg, swp_skip, swp_cond, seqK_n, blkK_n, condK_f, evK_some, appK_eq, appC_eq, grd_t, srun_nil, srun_cons, stepK_grd, sk_mv, sk_pick, sk_bin, sk_un, sk_fld, sk_idxA, sk_load, get_mk, raw_slot, raw_lit, put_some, wb_nil, ev_mv, ev_pick, ev_not, ev_fld, bin_add, bin_sub, bin_gtr, ev_ldP, ldP_some, ro_int, ro_bool, ro_str, List.map_cons, List.map_nil, List.getD_cons_zero, List.getD_cons_succ, List.set_cons_zero, List.set_cons_succ, List.getElem?_cons_zero, List.getElem?_cons_succ, Bool.false_eq_true, Option.map_some, ↓reduceIte, Nat.zero_add, Bool.not_true, gt_iff_lt, wrap_i64]
      refine ⟨_, Forget.cutA (l := [_]) (x := [_]) ?_ (by simp) ?_ o1, ⟨i + 1, by omega, rowsTo_succ hall hil e1 (fun _ _ => e2), rfl⟩, by exact fin⟩
      · repeat first | exact fg_e | refine fg_d ?_ | refine fg_k rfl ?_
      · simp [idOks, idOk, idp]
end Go.Sh.F
namespace Go.Sh.F
open Go.PathLaw Go.Proofs
def KMf : List Ob → List SV → SV → Prop := fun st args r => ∃ m : Mf, m.ok st ∧ m.fit ∧ okSt st ∧ args = [.agg m.cells] ∧ r = .bool (rightM m)
def O35 : Orc := O34.add 19 (StC KMf)
theorem s35 : Sound Tryd.prog O35 := s34.addS c19 (by kernel_rfl) (by
  rintro args r st ⟨m, hm, hf, ho, rfl, rfl⟩
  exact ⟨by simp [sf19], g19 m st hm hf ho⟩)
set_option maxHeartbeats 16000000 in
theorem g22 (m : Mf) (st : List Ob) (hm : m.ok st) (hf : m.fit) (ho : okSt st) : swpF O35 sf22 [.agg m.cells] st (fun r st' => r = .bool (rightM m) ∧ st' = st) := by
  have o1 := okM hm ho
  have pk := fun i (hi : i < m.ps.length) => (hm.2.2 _ (List.getElem_mem hi)).mono [.cells m.cells]
  have a0 := fun i (hi : i < m.ps.length) => hm.at' hi [.cells m.cells]
  have a1 := fun i (hi : i < m.ps.length) => hm.path hi [.cells m.cells]
  have f0 := fun i (hi : i < m.ps.length) => hm.f0 hi
  have ia := fun i (hi : i < m.ps.length) => hm.1.idxA hi .i64
  have ro7 := fun i (hi : i < m.ps.length) => ro1_pc (hm.2.2 _ (List.getElem_mem hi))
  have idp := hm.idp 1
  have hb := hm.2.1
  obtain ⟨q1, q2, q3, q4, q6, q7⟩ := hm.1.facts
  have q5 := hm.1.lenL
  obtain ⟨au, ve, pr, ep, ne, se, sh, pv, ps⟩ := m
  simp only [Mf.cells, Mf.fit] at idp o1 pk a0 a1 f0 ia ro7 q1 q2 q3 q4 q5 q6 q7 hb hf ⊢
  simp (maxSteps := 2000000) (disch := first | omega | (simp only [List.length_append, List.length_cons, List.length_nil, List.length_map] <;> omega)) only [sf22, q6, q7, cv_agg, cell_int, getA0, Nat.add_zero, List.set_cons_zero, List.set_cons_succ, flg_bool, exc_int, exc_agg, swp_seq, swp_reg, seqK_n, evK_some, appK_eq, srun_nil, srun_cons, stepK_call, swpF_eq, sk_give, sk_fld, sk_load, sk_box, get_mk, raw_slot, raw_lit, put_some, wb_nil, ev_give, ev_fld, ev_box, ev_ldP, ldP_some, ro_int, ro_bool, ro1_int, got_int, got_agg, pubs, pubsFrom, List.map_cons, List.map_nil, List.getD_cons_zero, List.getD_cons_succ, List.set_cons_zero, List.set_cons_succ, List.getElem?_cons_zero, List.length_cons, List.length_nil, List.replicate_succ, List.replicate_zero, List.cons_append, List.nil_append, Nat.reduceSub, Bool.false_eq_true, Option.map_some, ↓reduceIte, List.all_cons, List.all_nil, Bool.and_self, Nat.zero_add]
  refine callK_intro ((.inl (.inl (.inl (.inl (r35)))))) ?_
  rcases bf (wth 1 au) with h1 | h1
  · rw [h1]
    simp (maxSteps := 2000000) (disch := first | omega | (simp only [List.length_append, List.length_cons, List.length_nil, List.length_map] <;> omega)) only [List.set_cons_zero, List.set_cons_succ, flg_bool, grd_s, swp_seq, swp_reg, swp_ret, swp_cond, seqK_n, seqK_r, condK_t, evK_some, appK_eq, appC_eq, grd_t, srun_nil, srun_cons, stepK_grd, fin_ret, sk_mv, sk_give, sk_pick, sk_un, get_mk, raw_slot, raw_lit, put_some, wb_nil, ev_mv, ev_give, ev_pick, ev_not, ro_bool, List.map_cons, List.map_nil, List.getD_cons_zero, List.getD_cons_succ, List.set_cons_zero, List.set_cons_succ, Bool.false_eq_true, ↓reduceIte, reduceCtorEq, Bool.not_false]
    first | exact ⟨_, trim1 ho rfl, by simp [rightM, headM, h1], rfl⟩ | exact ⟨_, trim1 ho rfl, by simp [rightM, headM, h1]⟩ | exact ⟨_, .same, by simp [rightM, headM, h1], rfl⟩
  rw [h1]
  rcases bt (decide (ve < 1)) with h2 | h2
  · have e2 : decide (1 ≤ ve) = false := by simp at h2 ⊢; omega
    simp (maxSteps := 2000000) (disch := first | omega | (simp only [List.length_append, List.length_cons, List.length_nil, List.length_map] <;> omega)) only [h2, getA0, List.set_cons_zero, List.set_cons_succ, flg_bool, grd_s, swp_seq, swp_reg, swp_ret, swp_cond, seqK_n, seqK_r, condK_t, evK_some, appK_eq, appC_eq, grd_t, srun_nil, srun_cons, stepK_grd, fin_ret, sk_mv, sk_give, sk_pick, sk_bin, sk_un, sk_fld, sk_load, get_mk, raw_slot, raw_lit, put_some, wb_nil, ev_mv, ev_give, ev_pick, ev_not, ev_fld, bin_lss, ev_ldP, ldP_some, ro_int, ro_bool, List.map_cons, List.map_nil, List.getD_cons_zero, List.getD_cons_succ, List.set_cons_zero, List.set_cons_succ, List.getElem?_cons_zero, List.getElem?_cons_succ, Bool.false_eq_true, Option.map_some, ↓reduceIte, Nat.zero_add, reduceCtorEq, Bool.not_true]
    first | exact ⟨_, trim1 ho rfl, by simp [rightM, headM, e2], rfl⟩ | exact ⟨_, trim1 ho rfl, by simp [rightM, headM, e2]⟩ | exact ⟨_, .same, by simp [rightM, headM, e2], rfl⟩
  have e2 : decide (1 ≤ ve) = true := by simp at h2 ⊢; omega
  rcases bt (decide (200 < ve)) with h3 | h3
  · have e3 : decide (ve ≤ 200) = false := by simp at h3 ⊢; omega
    simp (maxSteps := 2000000) (disch := first | omega | (simp only [List.length_append, List.length_cons, List.length_nil, List.length_map] <;> omega)) only [h2, h3, getA0, List.set_cons_zero, List.set_cons_succ, flg_bool, grd_s, swp_seq, swp_reg, swp_ret, swp_cond, seqK_n, seqK_r, condK_t, evK_some, appK_eq, appC_eq, grd_t, srun_nil, srun_cons, stepK_grd, fin_ret, sk_mv, sk_give, sk_pick, sk_bin, sk_un, sk_fld, sk_load, get_mk, raw_slot, raw_lit, put_some, wb_nil, ev_mv, ev_give, ev_pick, ev_not, ev_fld, bin_lss, bin_gtr, ev_ldP, ldP_some, ro_int, ro_bool, List.map_cons, List.map_nil, List.getD_cons_zero, List.getD_cons_succ, List.set_cons_zero, List.set_cons_succ, List.getElem?_cons_zero, List.getElem?_cons_succ, Bool.false_eq_true, Option.map_some, ↓reduceIte, Nat.zero_add, reduceCtorEq, Bool.not_true, gt_iff_lt]
    first | exact ⟨_, trim1 ho rfl, by simp [rightM, headM, e3], rfl⟩ | exact ⟨_, trim1 ho rfl, by simp [rightM, headM, e3]⟩ | exact ⟨_, .same, by simp [rightM, headM, e3], rfl⟩
  have e3 : decide (ve ≤ 200) = true := by simp at h3 ⊢; omega
  simp (maxSteps := 2000000) (disch := first | omega | (simp only [List.length_append, List.length_cons, List.length_nil, List.length_map] <;> omega)) only [h2, h3, getA0, List.set_cons_zero, List.set_cons_succ, exc_int, evK_some, appK_eq, appC_eq, grd_t, srun_cons, stepK_call, stepK_grd, sk_mv, sk_pick, sk_bin, sk_un, sk_fld, sk_load, get_mk, raw_slot, raw_lit, put_some, wb_nil, ev_mv, ev_pick, ev_not, ev_fld, bin_lss, bin_gtr, ev_ldP, ldP_some, ro_int, ro_bool, got_int, pubs, pubsFrom, List.map_cons, List.map_nil, List.getD_cons_zero, List.getD_cons_succ, List.set_cons_zero, List.set_cons_succ, List.getElem?_cons_zero, List.getElem?_cons_succ, Bool.false_eq_true, Option.map_some, ↓reduceIte, Nat.zero_add, Bool.not_true, gt_iff_lt]
  refine callK_intro ((.inl (.inl (.inl (.inl (r35)))))) ?_
  rcases bf (wth 4294967295 pr) with h4 | h4
  · rw [h4]
    simp (maxSteps := 2000000) (disch := first | omega | (simp only [List.length_append, List.length_cons, List.length_nil, List.length_map] <;> omega)) only [List.set_cons_zero, List.set_cons_succ, flg_bool, grd_s, swp_seq, swp_reg, swp_ret, swp_cond, seqK_n, seqK_r, condK_t, evK_some, appK_eq, appC_eq, grd_t, srun_nil, srun_cons, stepK_grd, fin_ret, sk_mv, sk_give, sk_pick, sk_un, get_mk, raw_slot, raw_lit, put_some, wb_nil, ev_mv, ev_give, ev_pick, ev_not, ro_bool, List.map_cons, List.map_nil, List.getD_cons_zero, List.getD_cons_succ, List.set_cons_zero, List.set_cons_succ, Bool.false_eq_true, ↓reduceIte, reduceCtorEq, Bool.not_false]
    first | exact ⟨_, trim1 ho rfl, by simp [rightM, headM, h4], rfl⟩ | exact ⟨_, trim1 ho rfl, by simp [rightM, headM, h4]⟩ | exact ⟨_, .same, by simp [rightM, headM, h4], rfl⟩
  rw [h4]
  simp (maxSteps := 2000000) (disch := first | omega | (simp only [List.length_append, List.length_cons, List.length_nil, List.length_map] <;> omega)) only [getA0, List.set_cons_zero, List.set_cons_succ, exc_int, evK_some, appK_eq, appC_eq, grd_t, srun_cons, stepK_call, stepK_grd, sk_mv, sk_pick, sk_un, sk_fld, sk_load, get_mk, raw_slot, raw_lit, put_some, wb_nil, ev_mv, ev_pick, ev_not, ev_fld, ev_ldP, ldP_some, ro_int, ro_bool, got_int, pubs, pubsFrom, List.map_cons, List.map_nil, List.getD_cons_zero, List.getD_cons_succ, List.set_cons_zero, List.set_cons_succ, List.getElem?_cons_zero, List.getElem?_cons_succ, Bool.false_eq_true, Option.map_some, ↓reduceIte, Nat.zero_add, Bool.not_true]
  refine callK_intro ((.inl (.inl (.inl (.inl (r35)))))) ?_
  rcases bf (wth 4294967295 se) with h5 | h5
  · rw [h5]
    simp (maxSteps := 2000000) (disch := first | omega | (simp only [List.length_append, List.length_cons, List.length_nil, List.length_map] <;> omega)) only [List.set_cons_zero, List.set_cons_succ, flg_bool, grd_s, swp_seq, swp_reg, swp_ret, swp_cond, seqK_n, seqK_r, condK_t, evK_some, appK_eq, appC_eq, grd_t, srun_nil, srun_cons, stepK_grd, fin_ret, sk_mv, sk_give, sk_pick, sk_un, get_mk, raw_slot, raw_lit, put_some, wb_nil, ev_mv, ev_give, ev_pick, ev_not, ro_bool, List.map_cons, List.map_nil, List.getD_cons_zero, List.getD_cons_succ, List.set_cons_zero, List.set_cons_succ, Bool.false_eq_true, ↓reduceIte, reduceCtorEq, Bool.not_false]
    first | exact ⟨_, trim1 ho rfl, by simp [rightM, headM, h5], rfl⟩ | exact ⟨_, trim1 ho rfl, by simp [rightM, headM, h5]⟩ | exact ⟨_, .same, by simp [rightM, headM, h5], rfl⟩
  rw [h5]
  simp (maxSteps := 2000000) (disch := first | omega | (simp only [List.length_append, List.length_cons, List.length_nil, List.length_map] <;> omega)) only [getA0, List.set_cons_zero, List.set_cons_succ, exc_int, evK_some, appK_eq, appC_eq, grd_t, srun_cons, stepK_call, stepK_grd, sk_mv, sk_pick, sk_un, sk_fld, sk_load, get_mk, raw_slot, raw_lit, put_some, wb_nil, ev_mv, ev_pick, ev_not, ev_fld, ev_ldP, ldP_some, ro_int, ro_bool, got_int, pubs, pubsFrom, List.map_cons, List.map_nil, List.getD_cons_zero, List.getD_cons_succ, List.set_cons_zero, List.set_cons_succ, List.getElem?_cons_zero, List.getElem?_cons_succ, Bool.false_eq_true, Option.map_some, ↓reduceIte, Nat.zero_add, Bool.not_true]
  refine callK_intro ((.inl (.inl (.inl (.inl (r35)))))) ?_
  rcases bf (wth 4294967295 sh) with h6 | h6
  · rw [h6]
    simp (maxSteps := 2000000) (disch := first | omega | (simp only [List.length_append, List.length_cons, List.length_nil, List.length_map] <;> omega)) only [List.set_cons_zero, List.set_cons_succ, flg_bool, grd_s, swp_seq, swp_reg, swp_ret, swp_cond, seqK_n, seqK_r, condK_t, evK_some, appK_eq, appC_eq, grd_t, srun_nil, srun_cons, stepK_grd, fin_ret, sk_mv, sk_give, sk_pick, sk_un, get_mk, raw_slot, raw_lit, put_some, wb_nil, ev_mv, ev_give, ev_pick, ev_not, ro_bool, List.map_cons, List.map_nil, List.getD_cons_zero, List.getD_cons_succ, List.set_cons_zero, List.set_cons_succ, Bool.false_eq_true, ↓reduceIte, reduceCtorEq, Bool.not_false]
    first | exact ⟨_, trim1 ho rfl, by simp [rightM, headM, h6], rfl⟩ | exact ⟨_, trim1 ho rfl, by simp [rightM, headM, h6]⟩ | exact ⟨_, .same, by simp [rightM, headM, h6], rfl⟩
  rw [h6]
  simp (maxSteps := 2000000) (disch := first | omega | (simp only [List.length_append, List.length_cons, List.length_nil, List.length_map] <;> omega)) only [getA0, List.set_cons_zero, List.set_cons_succ, exc_int, evK_some, appK_eq, appC_eq, grd_t, srun_cons, stepK_call, stepK_grd, sk_mv, sk_pick, sk_un, sk_fld, sk_load, get_mk, raw_slot, raw_lit, put_some, wb_nil, ev_mv, ev_pick, ev_not, ev_fld, ev_ldP, ldP_some, ro_int, ro_bool, got_int, pubs, pubsFrom, List.map_cons, List.map_nil, List.getD_cons_zero, List.getD_cons_succ, List.set_cons_zero, List.set_cons_succ, List.getElem?_cons_zero, List.getElem?_cons_succ, Bool.false_eq_true, Option.map_some, ↓reduceIte, Nat.zero_add, Bool.not_true]
  refine callK_intro ((.inl (.inl (.inl (.inl (r35)))))) ?_
  rcases bf (wth 100 ep) with h7 | h7
  · rw [h7]
    simp (maxSteps := 2000000) (disch := first | omega | (simp only [List.length_append, List.length_cons, List.length_nil, List.length_map] <;> omega)) only [List.set_cons_zero, List.set_cons_succ, flg_bool, grd_s, swp_seq, swp_reg, swp_ret, swp_cond, seqK_n, seqK_r, condK_t, evK_some, appK_eq, appC_eq, grd_t, srun_nil, srun_cons, stepK_grd, fin_ret, sk_mv, sk_give, sk_pick, sk_un, get_mk, raw_slot, raw_lit, put_some, wb_nil, ev_mv, ev_give, ev_pick, ev_not, ro_bool, List.map_cons, List.map_nil, List.getD_cons_zero, List.getD_cons_succ, List.set_cons_zero, List.set_cons_succ, Bool.false_eq_true, ↓reduceIte, reduceCtorEq, Bool.not_false]
    first | exact ⟨_, trim1 ho rfl, by simp [rightM, headM, h7], rfl⟩ | exact ⟨_, trim1 ho rfl, by simp [rightM, headM, h7]⟩ | exact ⟨_, .same, by simp [rightM, headM, h7], rfl⟩
  rw [h7]
  simp (maxSteps := 2000000) (disch := first | omega | (simp only [List.length_append, List.length_cons, List.length_nil, List.length_map] <;> omega)) only [getA0, List.set_cons_zero, List.set_cons_succ, exc_int, evK_some, appK_eq, appC_eq, grd_t, srun_cons, stepK_call, stepK_grd, sk_mv, sk_pick, sk_un, sk_fld, sk_load, get_mk, raw_slot, raw_lit, put_some, wb_nil, ev_mv, ev_pick, ev_not, ev_fld, ev_ldP, ldP_some, ro_int, ro_bool, got_int, pubs, pubsFrom, List.map_cons, List.map_nil, List.getD_cons_zero, List.getD_cons_succ, List.set_cons_zero, List.set_cons_succ, List.getElem?_cons_zero, List.getElem?_cons_succ, Bool.false_eq_true, Option.map_some, ↓reduceIte, Nat.zero_add, Bool.not_true]
  refine callK_intro ((.inl (.inl (.inl (.inl (r35)))))) ?_
  rcases bf (wth 100 ne) with h8 | h8
  · rw [h8]
    simp (maxSteps := 2000000) (disch := first | omega | (simp only [List.length_append, List.length_cons, List.length_nil, List.length_map] <;> omega)) only [List.set_cons_zero, List.set_cons_succ, flg_bool, grd_s, swp_seq, swp_reg, swp_ret, swp_cond, seqK_n, seqK_r, condK_t, evK_some, appK_eq, appC_eq, grd_t, srun_nil, srun_cons, stepK_grd, fin_ret, sk_mv, sk_give, sk_pick, sk_un, get_mk, raw_slot, raw_lit, put_some, wb_nil, ev_mv, ev_give, ev_pick, ev_not, ro_bool, List.map_cons, List.map_nil, List.getD_cons_zero, List.getD_cons_succ, List.set_cons_zero, List.set_cons_succ, Bool.false_eq_true, ↓reduceIte, reduceCtorEq, Bool.not_false]
    first | exact ⟨_, trim1 ho rfl, by simp [rightM, headM, h8], rfl⟩ | exact ⟨_, trim1 ho rfl, by simp [rightM, headM, h8]⟩ | exact ⟨_, .same, by simp [rightM, headM, h8], rfl⟩
  rw [h8]
  have b8 : -100 ≤ ep ∧ ep ≤ 100 := by simp only [wth, Bool.and_eq_true, decide_eq_true_eq] at h7; omega
  have h9 := phz
  have h10 := phz
  rcases bt (ne == ep) with h9 | h9
  rotate_left
  rcases bt (ne == ep + 1) with h10 | h10
  rotate_left
  · have e9 : (ne == ep || ne == ep + 1) = false := by rw [h9, h10]; rfl
    simp (maxSteps := 2000000) (disch := first | omega | (simp only [List.length_append, List.length_cons, List.length_nil, List.length_map] <;> omega)) only [h9, h10, nbI, getA0, List.set_cons_zero, List.set_cons_succ, flg_bool, exc_bool, swp_seq, swp_reg, swp_ret, swp_cond, seqK_n, seqK_r, condK_t, evK_some, appK_eq, appC_eq, grd_t, srun_nil, srun_cons, stepK_grd, fin_ret, sk_mv, sk_take, sk_give, sk_pick, sk_bin, sk_un, sk_fld, sk_load, get_mk, raw_slot, raw_lit, put_some, wb_nil, ev_mv, ev_take, ev_give, ev_pick, ev_not, ev_fld, bin_add, bin_neq, ev_ldP, ldP_some, ro_int, ro_bool, got_bool, List.map_cons, List.map_nil, List.getD_cons_zero, List.getD_cons_succ, List.set_cons_zero, List.set_cons_succ, List.getElem?_cons_zero, List.getElem?_cons_succ, Bool.false_eq_true, Option.map_some, ↓reduceIte, Nat.zero_add, reduceCtorEq, Bool.not_true, Bool.not_false, wrap_i64]
    first | exact ⟨_, trim1 ho rfl, by simp [rightM, headM, e9], rfl⟩ | exact ⟨_, trim1 ho rfl, by simp [rightM, headM, e9]⟩ | exact ⟨_, .same, by simp [rightM, headM, e9], rfl⟩
  all_goals
    have e9 : (ne == ep || ne == ep + 1) = true := by
      rcases bt (ne == ep) with e | e
      · rw [e]; rfl
      · simp_all
    have eh : headM ⟨au, ve, pr, ep, ne, se, sh, pv, ps⟩ = true := by
      unfold headM; simp only [h1, e2, e3, h4, h5, h6, h7, h8, e9, Bool.and_self]
    rcases bt (decide (32 < (ps.length : Int))) with h11 | h11
    · simp (maxSteps := 2000000) (disch := first | omega | (simp only [List.length_append, List.length_cons, List.length_nil, List.length_map] <;> omega)) only [h9, h10, h11, q1, q5, nbI, getA0, List.set_cons_zero, List.set_cons_succ, flg_bool, exc_bool, swp_seq, swp_reg, swp_ret, swp_cond, seqK_n, seqK_r, condK_t, evK_some, appK_eq, appC_eq, grd_t, srun_nil, srun_cons, stepK_grd, fin_ret, sk_mv, sk_take, sk_give, sk_pick, sk_bin, sk_un, sk_fld, sk_load, sk_lenL, get_mk, raw_slot, raw_lit, put_some, wb_nil, ev_mv, ev_take, ev_give, ev_pick, ev_not, ev_fld, bin_add, bin_neq, bin_gtr, ev_ldP, ldP_some, ro_int, ro_bool, got_bool, List.map_cons, List.map_nil, List.getD_cons_zero, List.getD_cons_succ, List.set_cons_zero, List.set_cons_succ, List.getElem?_cons_zero, List.getElem?_cons_succ, Bool.false_eq_true, Option.map_some, ↓reduceIte, Nat.zero_add, Bool.not_true, Bool.not_false, gt_iff_lt, wrap_i64]
      exact ⟨_, trim1 ho rfl, by simp [rightM] at h11 ⊢; omega, rfl⟩
    simp (maxSteps := 2000000) (disch := first | omega | (simp only [List.length_append, List.length_cons, List.length_nil, List.length_map] <;> omega)) only [h9, h10, h11, q1, q5, nbI, getA0, List.set_cons_zero, List.set_cons_succ, exc_bool, exc_int, swp_seq, swp_reg, swp_skip, swp_block, swp_cond, seqK_n, condK_f, evK_some, appK_eq, appC_eq, grd_t, srun_nil, srun_cons, stepK_grd, sk_mv, sk_take, sk_pick, sk_bin, sk_un, sk_fld, sk_load, sk_lenL, get_mk, raw_slot, raw_lit, put_some, wb_nil, ev_mv, ev_take, ev_pick, ev_not, ev_fld, bin_add, bin_neq, bin_gtr, ev_ldP, ldP_some, ro_int, ro_bool, got_int, got_bool, List.map_cons, List.map_nil, List.getD_cons_zero, List.getD_cons_succ, List.set_cons_zero, List.set_cons_succ, List.getElem?_cons_zero, List.getElem?_cons_succ, Bool.false_eq_true, Option.map_some, ↓reduceIte, Nat.zero_add, Bool.not_true, Bool.not_false, gt_iff_lt, wrap_i64]
    refine swp_lp (fun S => ∃ (i : Nat), i ≤ ps.length ∧ rowsTo ps i ∧
        S = ⟨[.undef, .ptr st.length 0, .undef, .int .i64 i] ++ List.replicate 99 .undef, st ++ [.cells [.int .i64 au, .int .i64 ve, .int .i64 pr, .int .i64 ep, .int .i64 ne, .int .i64 se, .int .i64 sh, pv]]⟩)
        (fun S => match S.get 3 with | .int _ k => ((ps.length : Int) - k).toNat | _ => 0)
        ⟨[.undef, .ptr st.length 0, .undef, .int .i64 0] ++ List.replicate 99 .undef, st ++ [.cells [.int .i64 au, .int .i64 ve, .int .i64 pr, .int .i64 ep, .int .i64 ne, .int .i64 se, .int .i64 sh, pv]]⟩ ?_ ⟨0, Nat.zero_le _, fun j z h => by omega, rfl⟩ ?_
    · refine Forget.of ?_
      repeat first | exact fg_e | refine fg_d ?_ | refine fg_k rfl ?_
    rintro S ⟨i, hi, hall, rfl⟩
    by_cases him : i = ps.length
    · have hd : decide ((i : Int) < (ps.length : Int)) = false := by rw [decide_eq_false_iff_not]; omega
      rw [him] at hall
      have er := rowsTo_all hall
      simp (maxSteps := 2000000) (disch := first | omega | (simp only [List.length_append, List.length_cons, List.length_nil, List.length_map] <;> omega)) only [hd, q1, q5, getA0, List.set_cons_zero, List.set_cons_succ, lpK_e, flg_bool, swp_seq, swp_reg, swp_ret, swp_exit, swp_cond, seqK_n, seqK_e, blkK_e, condK_f, evK_some, appK_eq, srun_nil, srun_cons, fin_ret, sk_mv, sk_give, sk_bin, sk_fld, sk_load, sk_lenL, get_mk, raw_slot, raw_lit, put_some, wb_nil, ev_mv, ev_give, ev_fld, bin_lss, ev_ldP, ldP_some, ro_int, ro_bool, List.map_cons, List.map_nil, List.getD_cons_zero, List.getD_cons_succ, List.set_cons_zero, List.set_cons_succ, List.getElem?_cons_zero, List.getElem?_cons_succ, List.length_cons, List.length_nil, List.replicate_succ, List.replicate_zero, List.cons_append, List.nil_append, Bool.false_eq_true, Option.map_some, ↓reduceIte, Nat.zero_add, List.length_append]
      exact ⟨_, trim1 ho rfl, by simp [rightM, eh, er] at h11 ⊢; omega, rfl⟩
    have hd : decide ((i : Int) < (ps.length : Int)) = true := by rw [decide_eq_true_eq]; omega
    have hil : i < ps.length := by omega
    have fin : ((ps.length : Int) - ((i + 1 : Nat) : Int)).toNat < ((ps.length : Int) - (i : Int)).toNat := by omega
    have b0 := a0 i hil
    have b1 := a1 i hil
    have b3 := f0 i hil
    have b5 := ia i hil
    have b7 := ro7 i hil
    simp (maxSteps := 2000000) (disch := first | omega | (simp only [List.length_append, List.length_cons, List.length_nil, List.length_map] <;> omega)) only [hd, b0, b5, b7, q1, q5, getA0, List.set_cons_zero, List.set_cons_succ, exc_agg, swp_seq, swp_reg, swp_skip, swp_block, swp_cond, seqK_n, condK_t, evK_some, appK_eq, srun_nil, srun_cons, stepK_call, sk_mv, sk_bin, sk_fld, sk_idxA, sk_load, sk_lenL, get_mk, raw_slot, put_some, wb_nil, ev_mv, ev_fld, bin_lss, ev_ldP, ldP_some, ro_int, got_agg, pubs, pubsFrom, List.map_cons, List.map_nil, List.getD_cons_zero, List.getD_cons_succ, List.set_cons_zero, List.set_cons_succ, List.getElem?_cons_zero, List.getElem?_cons_succ, List.length_cons, List.length_nil, List.replicate_succ, List.replicate_zero, List.cons_append, List.nil_append, Bool.false_eq_true, Option.map_some, ↓reduceIte, Nat.zero_add, List.length_append]
    refine callK_intro (.inl (r36 (pk i hil) o1)) ?_
    rcases bf (rightP ps[i]) with e1 | e1
    · rw [e1]
      have er := rowsTo_not hil (by rw [e1]; simp)
      simp (maxSteps := 2000000) (disch := first | omega | (simp only [List.length_append, List.length_cons, List.length_nil, List.length_map] <;> omega)) only [List.set_cons_zero, List.set_cons_succ, lpK_r, flg_bool, grd_s, swp_seq, swp_reg, swp_ret, swp_cond, seqK_n, seqK_r, blkK_r, condK_t, evK_some, appK_eq, appC_eq, grd_t, srun_nil, srun_cons, stepK_grd, fin_ret, sk_mv, sk_give, sk_pick, sk_un, get_mk, raw_slot, raw_lit, put_some, wb_nil, ev_mv, ev_give, ev_pick, ev_not, ro_bool, List.map_cons, List.map_nil, List.getD_cons_zero, List.getD_cons_succ, List.set_cons_zero, List.set_cons_succ, Bool.false_eq_true, ↓reduceIte, reduceCtorEq, Bool.not_false]
      first | exact ⟨_, trim1 ho rfl, by simp [rightM, er], rfl⟩ | exact ⟨_, trim1 ho rfl, by simp [rightM, er]⟩ | exact ⟨_, .same, by simp [rightM, er], rfl⟩
    rw [e1]
    by_cases h0 : i = 0
    · have d0 : decide ((0 : Int) < (i : Int)) = false := by rw [decide_eq_false_iff_not]; omega
      simp (maxSteps := 2000000) (disch := first | omega | (simp only [List.length_append, List.length_cons, List.length_nil, List.length_map] <;> omega)) only [d0, List.set_cons_zero, List.set_cons_succ, lpK_n, flg_int, swp_reg, swp_skip, swp_cond, seqK_n, blkK_n, condK_f, evK_some, appK_eq, appC_eq, grd_t, srun_nil, srun_cons, stepK_grd, sk_mv, sk_give, sk_pick, sk_bin, sk_un, get_mk, raw_slot, raw_lit, put_some, wb_nil, ev_mv, ev_give, ev_pick, ev_not, bin_add, bin_gtr, ro_int, ro_bool, List.map_cons, List.map_nil, List.getD_cons_zero, List.getD_cons_succ, List.set_cons_zero, List.set_cons_succ, Bool.false_eq_true, ↓reduceIte, Bool.not_true, gt_iff_lt, wrap_i64]
      refine ⟨_, ?_, ⟨i + 1, by omega, rowsTo_succ hall hil e1 (fun _ h => by omega), rfl⟩, by exact fin⟩
      refine Forget.of ?_
      repeat first | exact fg_e | refine fg_d ?_ | refine fg_k rfl ?_
    · have d0 : decide ((0 : Int) < (i : Int)) = true := by rw [decide_eq_true_eq]; omega
      have hp : i - 1 < ps.length := by omega
      have ei : (i : Int) - 1 = ((i - 1 : Nat) : Int) := by omega
      have c5 := ia (i - 1) hp
      have c3 := f0 (i - 1) hp
      have c1 := a1 (i - 1) hp
      rcases bf (lt ps[i - 1].path ps[i].path) with e2 | e2
      · have er := rowsTo_not hil (fun h => by rw [h.2 hp (by omega)] at e2; cases e2)
        simp (maxSteps := 2000000) (disch := first | omega | (simp only [List.length_append, List.length_cons, List.length_nil, List.length_map] <;> omega)) only [d0, ei, b1, b3, b5, c5, c3, c1, leq_strs, e2, q1, getA0, List.set_cons_zero, List.set_cons_succ, lpK_r, flg_bool, swp_seq, swp_reg, swp_ret, swp_cond, seqK_n, seqK_r, blkK_r, condK_t, evK_some, appK_eq, appC_eq, grd_t, srun_nil, srun_cons, stepK_grd, fin_ret, sk_mv, sk_give, sk_pick, sk_bin, sk_un, sk_fld, sk_idxA, sk_load, get_mk, raw_slot, raw_lit, put_some, wb_nil, ev_mv, ev_give, ev_pick, ev_not, ev_fld, bin_sub, bin_gtr, ev_ldP, ldP_some, ro_int, ro_bool, List.map_cons, List.map_nil, List.getD_cons_zero, List.getD_cons_succ, List.set_cons_zero, List.set_cons_succ, List.getElem?_cons_zero, List.getElem?_cons_succ, Bool.false_eq_true, Option.map_some, ↓reduceIte, Nat.zero_add, Bool.not_true, Bool.not_false, gt_iff_lt, wrap_i64]
        first | exact ⟨_, trim1 ho rfl, by simp [rightM, er], rfl⟩ | exact ⟨_, trim1 ho rfl, by simp [rightM, er]⟩ | exact ⟨_, .same, by simp [rightM, er], rfl⟩
      · simp (maxSteps := 2000000) (disch := first | omega | (simp only [List.length_append, List.length_cons, List.length_nil, List.length_map] <;> omega)) only [d0, ei, b1, b3, b5, c5, c3, c1, leq_strs, e2, q1, getA0, List.set_cons_zero, List.set_cons_succ, lpK_n, flg_int, swp_reg, swp_skip, swp_cond, seqK_n, blkK_n, condK_f, evK_some, appK_eq, appC_eq, grd_t, srun_nil, srun_cons, stepK_grd, sk_mv, sk_give, sk_pick, sk_bin, sk_un, sk_fld, sk_idxA, sk_load, get_mk, raw_slot, raw_lit, put_some, wb_nil, ev_mv, ev_give, ev_pick, ev_not, ev_fld, bin_add, bin_sub, bin_gtr, ev_ldP, ldP_some, ro_int, ro_bool, List.map_cons, List.map_nil, List.getD_cons_zero, List.getD_cons_succ, List.set_cons_zero, List.set_cons_succ, List.getElem?_cons_zero, List.getElem?_cons_succ, Bool.false_eq_true, Option.map_some, ↓reduceIte, Nat.zero_add, Bool.not_true, gt_iff_lt, wrap_i64]
        refine ⟨_, ?_, ⟨i + 1, by omega, rowsTo_succ hall hil e1 (fun _ _ => e2), rfl⟩, by exact fin⟩
        refine Forget.of ?_
        repeat first | exact fg_e | refine fg_d ?_ | refine fg_k rfl ?_
def O36 : Orc := O35.add 22 (StC KMf)
theorem s36 : Sound Tryd.prog O36 := s35.addS c22 (by kernel_rfl) (by
  rintro args r st ⟨m, hm, hf, ho, rfl, rfl⟩
  exact ⟨by simp [sf22], g22 m st hm hf ho⟩)
end Go.Sh.F
namespace Go.Sh.F
open Go.PathLaw Go.Proofs
theorem digF_at {own : List Int} {v : Int} (h1 : 1 ≤ v) (h2 : v ≤ own.length) : ∃ k : Nat, (v - 1 = (k : Int)) ∧ ∃ hk : k < own.length, digF own v = own[k] := by
  refine ⟨(v - 1).toNat, by omega, by omega, ?_⟩
  unfold digF
  rw [if_neg (by omega), if_neg (by omega), List.getD_eq_getElem?_getD, List.getElem?_eq_getElem (by omega)]; rfl
def KDig : List Ob → List SV → SV → Prop := fun st args r => ∃ (v : SV) (l : List Int) (n : Int), RowI st v l ∧ l.length ≤ 1099511627776 ∧ args = [v, .int .i64 n] ∧ r = .int .i64 (digF l n)
theorem g34 (O : Orc) (v : SV) (l : List Int) (n : Int) (st : List Ob) (hv : RowI st v l) (hl : l.length ≤ 1099511627776) : swpF O sf34 [v, .int .i64 n] st (fun r st' => r = .int .i64 (digF l n) ∧ st' = st) := by
  obtain ⟨q1, q2, q3, q4, q6, q7⟩ := hv.facts
  have q5 := hv.lenL
  rcases bt (n == 0) with h1 | h1
  · have e : digF l n = 0 := by unfold digF; rw [if_pos (by simpa using h1)]
    simp (maxSteps := 2000000) (disch := first | omega | (simp only [List.length_append, List.length_cons, List.length_nil, List.length_map] <;> omega)) only [sf34, e, h1, List.set_cons_zero, List.set_cons_succ, flg_bool, flg_int, swp_seq, swp_reg, swp_ret, swp_block, swp_cond, seqK_n, seqK_r, blkK_r, condK_t, evK_some, appK_eq, srun_nil, srun_cons, fin_ret, swpF_eq, sk_mv, sk_give, sk_bin, get_mk, raw_slot, raw_lit, put_some, wb_nil, ev_mv, ev_give, bin_eql, ro_int, ro_bool, List.map_cons, List.map_nil, List.getD_cons_zero, List.getD_cons_succ, List.set_cons_zero, List.set_cons_succ, List.length_cons, List.length_nil, List.replicate_succ, List.replicate_zero, List.cons_append, List.nil_append, Nat.reduceAdd, Nat.reduceSub, true_and, Bool.false_eq_true, ↓reduceIte, Nat.zero_add, Int.reduceNeg]
    first | exact ⟨_, .same⟩ | exact ⟨_, .same, rfl⟩ | exact ⟨_, .same, rfl, rfl⟩
  have n0 : n ≠ 0 := by simpa using h1
  rcases bt (decide (n < 0)) with h2 | h2
  · have e : digF l n = -1 := by unfold digF; rw [if_neg n0, if_pos (by simp at h2; omega)]
    simp (maxSteps := 2000000) (disch := first | omega | (simp only [List.length_append, List.length_cons, List.length_nil, List.length_map] <;> omega)) only [sf34, e, h1, h2, List.set_cons_zero, List.set_cons_succ, flg_bool, flg_int, swp_seq, swp_reg, swp_ret, swp_block, swp_cond, seqK_n, seqK_r, blkK_r, condK_t, condK_f, evK_some, appK_eq, grd_t, srun_nil, srun_cons, stepK_grd, fin_ret, swpF_eq, sk_mv, sk_give, sk_pick, sk_bin, get_mk, raw_slot, raw_lit, put_some, wb_nil, ev_mv, ev_give, ev_pick, bin_eql, bin_lss, ro_int, ro_bool, List.map_cons, List.map_nil, List.getD_cons_zero, List.getD_cons_succ, List.set_cons_zero, List.set_cons_succ, List.length_cons, List.length_nil, List.replicate_succ, List.replicate_zero, List.cons_append, List.nil_append, Nat.reduceAdd, Nat.reduceSub, true_and, Bool.false_eq_true, ↓reduceIte, Nat.zero_add, reduceCtorEq, Int.reduceNeg]
    first | exact ⟨_, .same⟩ | exact ⟨_, .same, rfl⟩ | exact ⟨_, .same, rfl, rfl⟩
  rcases bt (decide ((l.length : Int) < n)) with h3 | h3
  · have e : digF l n = -1 := by unfold digF; rw [if_neg n0, if_pos (by simp at h3; omega)]
    simp (maxSteps := 2000000) (disch := first | omega | (simp only [List.length_append, List.length_cons, List.length_nil, List.length_map] <;> omega)) only [sf34, e, h1, h2, h3, q2, q3, q5, List.set_cons_zero, List.set_cons_succ, flg_bool, flg_int, exc_int, swp_seq, swp_reg, swp_ret, swp_block, swp_cond, seqK_n, seqK_r, blkK_r, condK_t, condK_f, evK_some, appK_eq, grd_t, srun_nil, srun_cons, stepK_grd, fin_ret, swpF_eq, sk_mv, sk_take, sk_give, sk_pick, sk_bin, sk_lenL, get_mk, raw_slot, raw_lit, put_some, wb_nil, ev_mv, ev_take, ev_give, ev_pick, bin_eql, bin_lss, bin_gtr, ro_int, ro_bool, got_int, List.map_cons, List.map_nil, List.getD_cons_zero, List.getD_cons_succ, List.set_cons_zero, List.set_cons_succ, List.length_cons, List.length_nil, List.replicate_succ, List.replicate_zero, List.cons_append, List.nil_append, Nat.reduceAdd, Nat.reduceSub, true_and, Bool.false_eq_true, ↓reduceIte, Nat.zero_add, gt_iff_lt, Int.reduceNeg]
    first | exact ⟨_, .same⟩ | exact ⟨_, .same, rfl⟩ | exact ⟨_, .same, rfl, rfl⟩
  have h2' : ¬ n < 0 := by simpa using h2
  have h3' : ¬ (l.length : Int) < n := by simpa using h3
  obtain ⟨k, ek, hk, e⟩ := digF_at (own := l) (v := n) (by omega) (by omega)
  have z1 := hv.idxB hk .i64
  rw [Nat.mul_one] at z1
  have z2 := hv.ld1' (isv_at (List.getElem?_eq_getElem hk))
  simp (maxSteps := 2000000) (disch := first | omega | (simp only [List.length_append, List.length_cons, List.length_nil, List.length_map] <;> omega)) only [sf34, e, ek, z1, z2, h1, h2, h3, q1, q2, q3, q5, List.set_cons_zero, List.set_cons_succ, flg_bool, flg_int, exc_int, sk_idxB, swp_seq, swp_reg, swp_skip, swp_ret, swp_block, swp_cond, seqK_n, blkK_n, condK_f, evK_some, appK_eq, grd_t, srun_nil, srun_cons, stepK_grd, fin_ret, swpF_eq, sk_mv, sk_take, sk_give, sk_pick, sk_bin, sk_load, sk_lenL, get_mk, raw_slot, raw_lit, put_some, wb_nil, ev_mv, ev_take, ev_give, ev_pick, bin_sub, bin_eql, bin_lss, bin_gtr, ro_int, ro_bool, got_int, List.map_cons, List.map_nil, List.getD_cons_zero, List.getD_cons_succ, List.set_cons_zero, List.set_cons_succ, List.length_cons, List.length_nil, List.replicate_succ, List.replicate_zero, List.cons_append, List.nil_append, Nat.reduceAdd, Nat.reduceSub, true_and, Bool.false_eq_true, ↓reduceIte, Nat.zero_add, gt_iff_lt, Int.reduceNeg, wrap_i64]
  first | exact ⟨_, .same⟩ | exact ⟨_, .same, rfl⟩ | exact ⟨_, .same, rfl, rfl⟩
def O37 : Orc := O36.add 34 (StC KDig)
theorem s37 : Sound Tryd.prog O37 := s36.addS c34 (by kernel_rfl) (by
  rintro args r st ⟨v, l, n, hv, hl, rfl, rfl⟩
  exact ⟨by simp [sf34], g34 _ v l n st hv hl⟩)
theorem g23 (O : Orc) (v : SV) (l : List Int) (n : Int) (st : List Ob) (hv : RowI st v l) (hl : l.length ≤ 1099511627776) : swpF O sf23 [v, .int .i64 n] st (fun r st' => r = .int .i64 (digF l n) ∧ st' = st) := by
  obtain ⟨q1, q2, q3, q4, q6, q7⟩ := hv.facts
  have q5 := hv.lenL
  rcases bt (n == 0) with h1 | h1
  · have e : digF l n = 0 := by unfold digF; rw [if_pos (by simpa using h1)]
    simp (maxSteps := 2000000) (disch := first | omega | (simp only [List.length_append, List.length_cons, List.length_nil, List.length_map] <;> omega)) only [sf23, e, h1, List.set_cons_zero, List.set_cons_succ, flg_int, swp_seq, swp_reg, swp_ret, swp_cond, seqK_n, seqK_r, condK_t, evK_some, appK_eq, srun_nil, srun_cons, fin_ret, swpF_eq, sk_mv, sk_give, sk_bin, get_mk, raw_slot, raw_lit, put_some, wb_nil, ev_mv, ev_give, bin_eql, ro_int, List.map_cons, List.map_nil, List.getD_cons_zero, List.getD_cons_succ, List.set_cons_zero, List.set_cons_succ, List.length_cons, List.length_nil, List.replicate_succ, List.replicate_zero, List.cons_append, List.nil_append, Nat.reduceAdd, Nat.reduceSub, true_and, Bool.false_eq_true, ↓reduceIte, Nat.zero_add, Int.reduceNeg]
    first | exact ⟨_, .same⟩ | exact ⟨_, .same, rfl⟩ | exact ⟨_, .same, rfl, rfl⟩
  have n0 : n ≠ 0 := by simpa using h1
  rcases bt (decide (n < 0)) with h2 | h2
  · have e : digF l n = -1 := by unfold digF; rw [if_neg n0, if_pos (by simp at h2; omega)]
    simp (maxSteps := 2000000) (disch := first | omega | (simp only [List.length_append, List.length_cons, List.length_nil, List.length_map] <;> omega)) only [sf23, e, h1, h2, List.set_cons_zero, List.set_cons_succ, flg_int, swp_seq, swp_reg, swp_skip, swp_ret, swp_cond, seqK_n, seqK_r, condK_t, condK_f, evK_some, appK_eq, grd_t, srun_nil, srun_cons, stepK_grd, fin_ret, swpF_eq, sk_mv, sk_give, sk_pick, sk_bin, get_mk, raw_slot, raw_lit, put_some, wb_nil, ev_mv, ev_give, ev_pick, bin_eql, bin_lss, ro_int, ro_bool, List.map_cons, List.map_nil, List.getD_cons_zero, List.getD_cons_succ, List.set_cons_zero, List.set_cons_succ, List.length_cons, List.length_nil, List.replicate_succ, List.replicate_zero, List.cons_append, List.nil_append, Nat.reduceAdd, Nat.reduceSub, true_and, Bool.false_eq_true, ↓reduceIte, Nat.zero_add, reduceCtorEq, Int.reduceNeg]
    first | exact ⟨_, .same⟩ | exact ⟨_, .same, rfl⟩ | exact ⟨_, .same, rfl, rfl⟩
  rcases bt (decide ((l.length : Int) < n)) with h3 | h3
  · have e : digF l n = -1 := by unfold digF; rw [if_neg n0, if_pos (by simp at h3; omega)]
    simp (maxSteps := 2000000) (disch := first | omega | (simp only [List.length_append, List.length_cons, List.length_nil, List.length_map] <;> omega)) only [sf23, e, h1, h2, h3, q2, q3, q5, List.set_cons_zero, List.set_cons_succ, flg_int, exc_int, swp_seq, swp_reg, swp_skip, swp_ret, swp_cond, seqK_n, seqK_r, condK_t, condK_f, evK_some, appK_eq, grd_t, srun_nil, srun_cons, stepK_grd, fin_ret, swpF_eq, sk_mv, sk_take, sk_give, sk_pick, sk_bin, sk_lenL, get_mk, raw_slot, raw_lit, put_some, wb_nil, ev_mv, ev_take, ev_give, ev_pick, bin_eql, bin_lss, bin_gtr, ro_int, ro_bool, got_int, List.map_cons, List.map_nil, List.getD_cons_zero, List.getD_cons_succ, List.set_cons_zero, List.set_cons_succ, List.length_cons, List.length_nil, List.replicate_succ, List.replicate_zero, List.cons_append, List.nil_append, Nat.reduceAdd, Nat.reduceSub, true_and, Bool.false_eq_true, ↓reduceIte, Nat.zero_add, gt_iff_lt, Int.reduceNeg]
    first | exact ⟨_, .same⟩ | exact ⟨_, .same, rfl⟩ | exact ⟨_, .same, rfl, rfl⟩
  have h2' : ¬ n < 0 := by simpa using h2
  have h3' : ¬ (l.length : Int) < n := by simpa using h3
  obtain ⟨k, ek, hk, e⟩ := digF_at (own := l) (v := n) (by omega) (by omega)
  have z1 := hv.idxB hk .i64
  rw [Nat.mul_one] at z1
  have z2 := hv.ld1' (isv_at (List.getElem?_eq_getElem hk))
  simp (maxSteps := 2000000) (disch := first | omega | (simp only [List.length_append, List.length_cons, List.length_nil, List.length_map] <;> omega)) only [sf23, e, ek, z1, z2, h1, h2, h3, q1, q2, q3, q5, List.set_cons_zero, List.set_cons_succ, flg_int, exc_int, sk_idxB, swp_seq, swp_reg, swp_skip, swp_ret, swp_cond, seqK_n, condK_f, evK_some, appK_eq, grd_t, srun_nil, srun_cons, stepK_grd, fin_ret, swpF_eq, sk_mv, sk_take, sk_give, sk_pick, sk_bin, sk_load, sk_lenL, get_mk, raw_slot, raw_lit, put_some, wb_nil, ev_mv, ev_take, ev_give, ev_pick, bin_sub, bin_eql, bin_lss, bin_gtr, ro_int, ro_bool, got_int, List.map_cons, List.map_nil, List.getD_cons_zero, List.getD_cons_succ, List.set_cons_zero, List.set_cons_succ, List.length_cons, List.length_nil, List.replicate_succ, List.replicate_zero, List.cons_append, List.nil_append, Nat.reduceAdd, Nat.reduceSub, true_and, Bool.false_eq_true, ↓reduceIte, Nat.zero_add, gt_iff_lt, Int.reduceNeg, wrap_i64]
  first | exact ⟨_, .same⟩ | exact ⟨_, .same, rfl⟩ | exact ⟨_, .same, rfl, rfl⟩
def O38 : Orc := O37.add 23 (StC KDig)
theorem s38 : Sound Tryd.prog O38 := s37.addS c23 (by kernel_rfl) (by
  rintro args r st ⟨v, l, n, hv, hl, rfl, rfl⟩
  exact ⟨by simp [sf23], g23 _ v l n st hv hl⟩)
/-- What a link must be, in order. -/
structure Lk where
  m : Mf
  c : Cu
  au : Int
  v : SV
  own : List Int
def Lk.cells (k : Lk) : List SV := [.int .i64 k.m.au, .int .i64 k.m.ve, .int .i64 k.m.pr, .int .i64 k.m.ep, .int .i64 k.m.ne, .int .i64 k.m.se, .int .i64 k.m.sh, k.m.pv, .int .i64 k.c.ve, .int .i64 k.c.he, .int .i64 k.c.ep, .int .i64 k.c.ak, .int .i64 k.au, k.v]
def Lk.ok (st : List Ob) (k : Lk) : Prop := k.m.ok st ∧ k.m.fit ∧ RowI st k.v k.own ∧ k.own.length ≤ 1099511627776
theorem Lk.ok.mono {st : List Ob} {k : Lk} (h : k.ok st) (x : List Ob) : k.ok (st ++ x) := ⟨h.1.mono x, h.2.1, RowAt.mono h.2.2.1 x, h.2.2.2⟩
theorem okL {st : List Ob} {k : Lk} (h : k.ok st) (ho : okSt st) : okSt (st ++ [.cells k.cells]) := by
  refine okSt_appL ho ?_
  have h1 := (h.1.mono [.cells k.cells]).1.idOk (idOks_flat (h.1.mono [.cells k.cells]).2.2)
  have h2 := RowI.idOk (RowAt.mono h.2.2.1 [.cells k.cells])
  rw [List.length_append] at h1 h2
  simp only [List.all_cons, List.all_nil, Bool.and_true, obOk, Lk.cells, idOks, idOk, Bool.true_and] at h1 h2 ⊢
  rw [h1, h2]; rfl
def dem (k : Lk) : Nat → Bool
  | 0 => rightM k.m && k.m.au == k.au
  | 1 => decide (k.c.ve < k.m.ve)
  | 2 => decide (IntKind.i64.wrap (k.m.ve - 1) ≤ k.c.ve)
  | 3 => k.m.pr == k.c.he
  | 4 => k.m.ep == k.c.ep
  | _ => decide (k.c.ak ≤ k.m.se) && k.m.sh == digF k.own k.m.se
def KDem (i : Nat) : List Ob → List SV → SV → Prop := fun st args r => ∃ k : Lk, k.ok st ∧ okSt st ∧ args = [.agg k.cells] ∧ r = .bool (dem k i)
theorem r19 {m : Mf} {st : List Ob} (h1 : m.ok st) (h2 : m.fit) (h3 : okSt st) : O38 19 [.agg m.cells] st (.bool (rightM m)) st := (by repeat first | exact Or.inr ⟨rfl, rfl, m, h1, h2, h3, rfl, rfl⟩ | refine Or.inl ?_)
theorem r22 {m : Mf} {st : List Ob} (h1 : m.ok st) (h2 : m.fit) (h3 : okSt st) : O38 22 [.agg m.cells] st (.bool (rightM m)) st := (by repeat first | exact Or.inr ⟨rfl, rfl, m, h1, h2, h3, rfl, rfl⟩ | refine Or.inl ?_)
theorem r34 {v : SV} {l : List Int} {n : Int} {st : List Ob} (h1 : RowI st v l) (h2 : l.length ≤ 1099511627776) : O38 34 [v, .int .i64 n] st (.int .i64 (digF l n)) st := (by repeat first | exact Or.inr ⟨rfl, rfl, v, l, n, h1, h2, rfl, rfl⟩ | refine Or.inl ?_)
theorem r23 {v : SV} {l : List Int} {n : Int} {st : List Ob} (h1 : RowI st v l) (h2 : l.length ≤ 1099511627776) : O38 23 [v, .int .i64 n] st (.int .i64 (digF l n)) st := (by repeat first | exact Or.inr ⟨rfl, rfl, v, l, n, h1, h2, rfl, rfl⟩ | refine Or.inl ?_)
theorem g28 (k : Lk) (st : List Ob) (hk : k.ok st) (ho : okSt st) : swpF O38 sf28 [.agg k.cells] st (fun r st' => r = .bool (dem k 0) ∧ st' = st) := by
  have o1 := okL hk ho
  have k1 := hk.mono [.cells k.cells]
  obtain ⟨q1, q2, q3, q4, q6, q7⟩ := hk.1.1.facts
  obtain ⟨u1, u2, u3, u4, u6, u7⟩ := hk.2.2.1.facts
  simp only [Lk.cells] at o1 k1 ⊢
  simp (maxSteps := 2000000) (disch := first | omega | (simp only [List.length_append, List.length_cons, List.length_nil, List.length_map] <;> omega)) only [sf28, q6, q7, u6, u7, cv_agg, cell_int, getA0, ev_ldA, List.drop_zero, List.take_succ_cons, List.take_zero, Nat.add_zero, List.set_cons_zero, List.set_cons_succ, apO_some, flg_bool, exc_agg, swp_seq, swp_reg, seqK_n, evK_some, appK_eq, srun_nil, srun_cons, stepK_call, swpF_eq, sk_give, sk_fld, sk_load, sk_box, get_mk, raw_slot, raw_lit, put_some, wb_nil, ev_give, ev_fld, ev_box, ro_bool, ro_agg, ro1_int, got_agg, pubs, pubsFrom, List.map_cons, List.map_nil, List.getD_cons_zero, List.getD_cons_succ, List.set_cons_zero, List.set_cons_succ, List.getElem?_cons_zero, List.length_cons, List.length_nil, List.replicate_succ, List.replicate_zero, List.cons_append, List.nil_append, Nat.reduceAdd, Nat.reduceSub, Nat.reduceLeDiff, Bool.false_eq_true, ↓reduceIte, List.all_cons, List.all_nil, Bool.and_self, Nat.zero_add]
  refine callK_intro (r19 k1.1 k1.2.1 o1) ?_
  rcases bf (rightM k.m) with h1 | h1
  · rw [h1]
    simp (maxSteps := 2000000) (disch := first | omega | (simp only [List.length_append, List.length_cons, List.length_nil, List.length_map] <;> omega)) only [List.set_cons_zero, List.set_cons_succ, flg_bool, swp_ret, seqK_n, evK_some, appK_eq, appC_eq, grd_t, srun_nil, srun_cons, stepK_grd, fin_ret, sk_mv, sk_give, sk_pick, get_mk, raw_slot, raw_lit, put_some, wb_nil, ev_mv, ev_give, ev_pick, ro_bool, List.map_cons, List.map_nil, List.getD_cons_zero, List.getD_cons_succ, List.set_cons_zero, List.set_cons_succ, Bool.false_eq_true, ↓reduceIte]
    first | exact ⟨_, trim1 ho rfl, by simp [dem, h1], rfl⟩ | exact ⟨_, trim1 ho rfl, by simp [dem, h1]⟩ | exact ⟨_, .same, by simp [dem, h1], rfl⟩
  rw [h1]
  simp (maxSteps := 2000000) (disch := first | omega | (simp only [List.length_append, List.length_cons, List.length_nil, List.length_map] <;> omega)) only [getA0, Nat.add_zero, List.set_cons_zero, List.set_cons_succ, flg_bool, swp_ret, seqK_n, evK_some, appK_eq, appC_eq, grd_t, srun_nil, srun_cons, stepK_grd, fin_ret, sk_mv, sk_give, sk_pick, sk_bin, sk_fld, sk_load, get_mk, raw_slot, raw_lit, put_some, wb_nil, ev_mv, ev_give, ev_pick, ev_fld, bin_eql, ev_ldP, ldP_some, ro_int, ro_bool, List.map_cons, List.map_nil, List.getD_cons_zero, List.getD_cons_succ, List.set_cons_zero, List.set_cons_succ, List.getElem?_cons_zero, List.getElem?_cons_succ, Bool.false_eq_true, Option.map_some, ↓reduceIte, Nat.zero_add]
  first | exact ⟨_, trim1 ho rfl, by simp [dem, h1], rfl⟩ | exact ⟨_, trim1 ho rfl, by simp [dem, h1]⟩ | exact ⟨_, .same, by simp [dem, h1], rfl⟩
theorem g29 (O : Orc) (k : Lk) (st : List Ob) (hk : k.ok st) (ho : okSt st) : swpF O sf29 [.agg k.cells] st (fun r st' => r = .bool (dem k 1) ∧ st' = st) := by
  obtain ⟨q1, q2, q3, q4, q6, q7⟩ := hk.1.1.facts
  obtain ⟨u1, u2, u3, u4, u6, u7⟩ := hk.2.2.1.facts
  simp only [Lk.cells]
  simp (maxSteps := 2000000) (disch := first | omega | (simp only [List.length_append, List.length_cons, List.length_nil, List.length_map] <;> omega)) only [sf29, q6, q7, u6, u7, cv_agg, cell_int, getA0, Nat.add_zero, List.set_cons_zero, List.set_cons_succ, flg_bool, exc_agg, swp_seq, swp_reg, swp_ret, seqK_n, evK_some, appK_eq, srun_nil, srun_cons, fin_ret, swpF_eq, sk_give, sk_bin, sk_fld, sk_load, sk_box, get_mk, raw_slot, raw_lit, put_some, wb_nil, ev_give, ev_fld, bin_gtr, ev_box, ev_ldP, ldP_some, ro_int, ro_bool, ro1_int, got_agg, List.map_cons, List.map_nil, List.getD_cons_zero, List.getD_cons_succ, List.set_cons_zero, List.set_cons_succ, List.getElem?_cons_zero, List.getElem?_cons_succ, List.length_cons, List.length_nil, List.replicate_succ, List.replicate_zero, List.cons_append, List.nil_append, Nat.reduceSub, Bool.false_eq_true, Option.map_some, ↓reduceIte, List.all_cons, List.all_nil, Bool.and_self, Nat.zero_add, gt_iff_lt]
  exact ⟨_, trim1 ho rfl, rfl, rfl⟩
theorem g30 (O : Orc) (k : Lk) (st : List Ob) (hk : k.ok st) (ho : okSt st) : swpF O sf30 [.agg k.cells] st (fun r st' => r = .bool (dem k 2) ∧ st' = st) := by
  obtain ⟨q1, q2, q3, q4, q6, q7⟩ := hk.1.1.facts
  obtain ⟨u1, u2, u3, u4, u6, u7⟩ := hk.2.2.1.facts
  simp only [Lk.cells]
  simp (maxSteps := 2000000) (disch := first | omega | (simp only [List.length_append, List.length_cons, List.length_nil, List.length_map] <;> omega)) only [sf30, q6, q7, u6, u7, cv_agg, cell_int, getA0, Nat.add_zero, List.set_cons_zero, List.set_cons_succ, flg_bool, exc_agg, swp_seq, swp_reg, swp_ret, seqK_n, evK_some, appK_eq, srun_nil, srun_cons, fin_ret, swpF_eq, sk_give, sk_bin, sk_fld, sk_load, sk_box, get_mk, raw_slot, raw_lit, put_some, wb_nil, ev_give, ev_fld, bin_sub, bin_leq, ev_box, ev_ldP, ldP_some, ro_int, ro_bool, ro1_int, got_agg, List.map_cons, List.map_nil, List.getD_cons_zero, List.getD_cons_succ, List.set_cons_zero, List.set_cons_succ, List.getElem?_cons_zero, List.getElem?_cons_succ, List.length_cons, List.length_nil, List.replicate_succ, List.replicate_zero, List.cons_append, List.nil_append, Nat.reduceSub, Bool.false_eq_true, Option.map_some, ↓reduceIte, List.all_cons, List.all_nil, Bool.and_self, Nat.zero_add]
  exact ⟨_, trim1 ho rfl, rfl, rfl⟩
theorem g31 (O : Orc) (k : Lk) (st : List Ob) (hk : k.ok st) (ho : okSt st) : swpF O sf31 [.agg k.cells] st (fun r st' => r = .bool (dem k 3) ∧ st' = st) := by
  obtain ⟨q1, q2, q3, q4, q6, q7⟩ := hk.1.1.facts
  obtain ⟨u1, u2, u3, u4, u6, u7⟩ := hk.2.2.1.facts
  simp only [Lk.cells]
  simp (maxSteps := 2000000) (disch := first | omega | (simp only [List.length_append, List.length_cons, List.length_nil, List.length_map] <;> omega)) only [sf31, q6, q7, u6, u7, cv_agg, cell_int, getA0, Nat.add_zero, List.set_cons_zero, List.set_cons_succ, flg_bool, exc_agg, swp_seq, swp_reg, swp_ret, seqK_n, evK_some, appK_eq, srun_nil, srun_cons, fin_ret, swpF_eq, sk_give, sk_bin, sk_fld, sk_load, sk_box, get_mk, raw_slot, raw_lit, put_some, wb_nil, ev_give, ev_fld, bin_eql, ev_box, ev_ldP, ldP_some, ro_int, ro_bool, ro1_int, got_agg, List.map_cons, List.map_nil, List.getD_cons_zero, List.getD_cons_succ, List.set_cons_zero, List.set_cons_succ, List.getElem?_cons_zero, List.getElem?_cons_succ, List.length_cons, List.length_nil, List.replicate_succ, List.replicate_zero, List.cons_append, List.nil_append, Nat.reduceAdd, Nat.reduceSub, Bool.false_eq_true, Option.map_some, ↓reduceIte, List.all_cons, List.all_nil, Bool.and_self, Nat.zero_add]
  exact ⟨_, trim1 ho rfl, rfl, rfl⟩
theorem g32 (O : Orc) (k : Lk) (st : List Ob) (hk : k.ok st) (ho : okSt st) : swpF O sf32 [.agg k.cells] st (fun r st' => r = .bool (dem k 4) ∧ st' = st) := by
  obtain ⟨q1, q2, q3, q4, q6, q7⟩ := hk.1.1.facts
  obtain ⟨u1, u2, u3, u4, u6, u7⟩ := hk.2.2.1.facts
  simp only [Lk.cells]
  simp (maxSteps := 2000000) (disch := first | omega | (simp only [List.length_append, List.length_cons, List.length_nil, List.length_map] <;> omega)) only [sf32, q6, q7, u6, u7, cv_agg, cell_int, getA0, Nat.add_zero, List.set_cons_zero, List.set_cons_succ, flg_bool, exc_agg, swp_seq, swp_reg, swp_ret, seqK_n, evK_some, appK_eq, srun_nil, srun_cons, fin_ret, swpF_eq, sk_give, sk_bin, sk_fld, sk_load, sk_box, get_mk, raw_slot, raw_lit, put_some, wb_nil, ev_give, ev_fld, bin_eql, ev_box, ev_ldP, ldP_some, ro_int, ro_bool, ro1_int, got_agg, List.map_cons, List.map_nil, List.getD_cons_zero, List.getD_cons_succ, List.set_cons_zero, List.set_cons_succ, List.getElem?_cons_zero, List.getElem?_cons_succ, List.length_cons, List.length_nil, List.replicate_succ, List.replicate_zero, List.cons_append, List.nil_append, Nat.reduceAdd, Nat.reduceSub, Bool.false_eq_true, Option.map_some, ↓reduceIte, List.all_cons, List.all_nil, Bool.and_self, Nat.zero_add]
  exact ⟨_, trim1 ho rfl, rfl, rfl⟩
def O39 : Orc := O38.add 28 (StC (KDem 0))
theorem s39 : Sound Tryd.prog O39 := s38.addS c28 (by kernel_rfl) (by
  rintro args r st ⟨k, hk, ho, rfl, rfl⟩
  exact ⟨by simp [sf28], g28 k st hk ho⟩)
theorem g33 (k : Lk) (st : List Ob) (hk : k.ok st) (ho : okSt st) : swpF O39 sf33 [.agg k.cells] st (fun r st' => r = .bool (dem k 5) ∧ st' = st) := by
  have o1 := okL hk ho
  have k1 := hk.mono [.cells k.cells]
  obtain ⟨q1, q2, q3, q4, q6, q7⟩ := hk.1.1.facts
  obtain ⟨u1, u2, u3, u4, u6, u7⟩ := hk.2.2.1.facts
  simp only [Lk.cells] at o1 k1 ⊢
  rcases bf (decide (k.c.ak ≤ k.m.se)) with h1 | h1
  · simp (maxSteps := 2000000) (disch := first | omega | (simp only [List.length_append, List.length_cons, List.length_nil, List.length_map] <;> omega)) only [sf33, h1, q6, q7, u6, u7, cv_agg, cell_int, getA0, Nat.add_zero, List.set_cons_zero, List.set_cons_succ, flg_bool, exc_agg, swp_seq, swp_reg, seqK_n, evK_some, appK_eq, grd_t, srun_nil, srun_cons, stepK_grd, swpF_eq, sk_mv, sk_give, sk_bin, sk_fld, sk_load, sk_box, get_mk, raw_slot, raw_lit, put_some, wb_nil, ev_mv, ev_give, ev_fld, bin_geq, ev_box, ev_ldP, ldP_some, ro_int, ro_bool, ro1_int, got_agg, List.map_cons, List.map_nil, List.getD_cons_zero, List.getD_cons_succ, List.set_cons_zero, List.set_cons_succ, List.getElem?_cons_zero, List.getElem?_cons_succ, List.length_cons, List.length_nil, List.replicate_succ, List.replicate_zero, List.cons_append, List.nil_append, Nat.reduceAdd, Nat.reduceSub, Bool.false_eq_true, Option.map_some, ↓reduceIte, List.all_cons, List.all_nil, Bool.and_self, Nat.zero_add, ge_iff_le]
    apply swp_to
    · repeat' first | exact swp_ttI | refine swp_bothI ?_ ?_ | exact ⟨rfl, rfl⟩ | exact rfl | simp (maxSteps := 2000000) (disch := first | omega | (simp only [List.length_append, List.length_cons, List.length_nil, List.length_map] <;> omega)) only [List.set_cons_zero, List.set_cons_succ, flg_bool, swp_reg, evK_some, appK_eq, grd_t, srun_nil, srun_cons, stepK_grd, sk_give, sk_pick, get_mk, raw_slot, raw_lit, put_some, wb_nil, ev_give, ev_pick, ro_bool, List.map_cons, List.map_nil, List.getD_cons_zero, List.getD_cons_succ, List.set_cons_zero, List.set_cons_succ, true_and, Bool.false_eq_true, ↓reduceIte]
    simp (maxSteps := 2000000) (disch := first | omega | (simp only [List.length_append, List.length_cons, List.length_nil, List.length_map] <;> omega)) only [swp_ret, seqK_n, fin_ret, get_mk, List.getD_cons_zero, List.getD_cons_succ]
    first | exact ⟨_, trim1 ho rfl, by simp [dem, h1], rfl⟩ | exact ⟨_, trim1 ho rfl, by simp [dem, h1]⟩ | exact ⟨_, .same, by simp [dem, h1], rfl⟩
  · simp (maxSteps := 2000000) (disch := first | omega | (simp only [List.length_append, List.length_cons, List.length_nil, List.length_map] <;> omega)) only [sf33, h1, q6, q7, u1, u6, u7, cv_agg, cell_int, getA0, Nat.add_zero, List.set_cons_zero, List.set_cons_succ, flg_bool, exc_agg, swp_seq, swp_reg, seqK_n, evK_some, appK_eq, grd_t, srun_nil, srun_cons, stepK_grd, swpF_eq, sk_mv, sk_give, sk_bin, sk_fld, sk_load, sk_box, get_mk, raw_slot, raw_lit, put_some, wb_nil, ev_mv, ev_give, ev_fld, bin_geq, ev_box, ev_ldP, ldP_some, ro_int, ro_bool, ro1_int, got_agg, List.map_cons, List.map_nil, List.getD_cons_zero, List.getD_cons_succ, List.set_cons_zero, List.set_cons_succ, List.getElem?_cons_zero, List.getElem?_cons_succ, List.length_cons, List.length_nil, List.replicate_succ, List.replicate_zero, List.cons_append, List.nil_append, Nat.reduceAdd, Nat.reduceSub, Bool.false_eq_true, Option.map_some, ↓reduceIte, List.all_cons, List.all_nil, Bool.and_self, Nat.zero_add, ge_iff_le]
    apply swp_to
    · repeat' first | exact swp_ttI | refine swp_bothI ?_ ?_ | refine callK_intro (.inl (r34 k1.2.2.1 k1.2.2.2)) ?_ | exact ⟨rfl, rfl⟩ | exact rfl | simp (maxSteps := 2000000) (disch := first | omega | (simp only [List.length_append, List.length_cons, List.length_nil, List.length_map] <;> omega)) only [u2, u3, getA0, List.set_cons_zero, List.set_cons_succ, flg_bool, exc_int, swp_reg, evK_some, appK_eq, appC_eq, grd_t, srun_nil, srun_cons, stepK_call, stepK_grd, sk_give, sk_pick, sk_bin, sk_load, get_mk, raw_slot, raw_lit, put_some, wb_nil, ev_give, ev_pick, bin_eql, ev_ldP, ldP_some, ro_int, ro_bool, got_int, pubs, pubsFrom, List.map_cons, List.map_nil, List.getD_cons_zero, List.getD_cons_succ, List.set_cons_zero, List.set_cons_succ, List.getElem?_cons_zero, List.getElem?_cons_succ, true_and, Bool.false_eq_true, Option.map_some, ↓reduceIte]
    simp (maxSteps := 2000000) (disch := first | omega | (simp only [List.length_append, List.length_cons, List.length_nil, List.length_map] <;> omega)) only [swp_ret, seqK_n, fin_ret, get_mk, List.getD_cons_zero, List.getD_cons_succ]
    first | exact ⟨_, trim1 ho rfl, by simp [dem, h1], rfl⟩ | exact ⟨_, trim1 ho rfl, by simp [dem, h1]⟩ | exact ⟨_, .same, by simp [dem, h1], rfl⟩
def O40 : Orc := O39.add 33 (StC (KDem 5))
theorem s40 : Sound Tryd.prog O40 := s39.addS c33 (by kernel_rfl) (by
  rintro args r st ⟨k, hk, ho, rfl, rfl⟩
  exact ⟨by simp [sf33], g33 k st hk ho⟩)
def O41 : Orc := O40.add 29 (StC (KDem 1))
theorem s41 : Sound Tryd.prog O41 := s40.addS c29 (by kernel_rfl) (by
  rintro args r st ⟨k, hk, ho, rfl, rfl⟩
  exact ⟨by simp [sf29], g29 _ k st hk ho⟩)
def O42 : Orc := O41.add 30 (StC (KDem 2))
theorem s42 : Sound Tryd.prog O42 := s41.addS c30 (by kernel_rfl) (by
  rintro args r st ⟨k, hk, ho, rfl, rfl⟩
  exact ⟨by simp [sf30], g30 _ k st hk ho⟩)
def O43 : Orc := O42.add 31 (StC (KDem 3))
theorem s43 : Sound Tryd.prog O43 := s42.addS c31 (by kernel_rfl) (by
  rintro args r st ⟨k, hk, ho, rfl, rfl⟩
  exact ⟨by simp [sf31], g31 _ k st hk ho⟩)
def O44 : Orc := O43.add 32 (StC (KDem 4))
theorem s44 : Sound Tryd.prog O44 := s43.addS c32 (by kernel_rfl) (by
  rintro args r st ⟨k, hk, ho, rfl, rfl⟩
  exact ⟨by simp [sf32], g32 _ k st hk ho⟩)
end Go.Sh.F
namespace Go.Sh.F
open Go.PathLaw Go.Proofs
theorem g13 (O : Orc) (e : Int) (st : List Ob) : swpF O sf13 [.int .i64 e] st (fun r st' => r = .bool (e == 11) ∧ st' = st) := by
  simp (maxSteps := 2000000) (disch := first | omega | (simp only [List.length_append, List.length_cons, List.length_nil, List.length_map] <;> omega)) only [sf13, List.set_cons_zero, List.set_cons_succ, flg_bool, swp_seq, swp_reg, swp_ret, seqK_n, evK_some, appK_eq, srun_nil, srun_cons, fin_ret, swpF_eq, sk_mv, sk_give, sk_bin, get_mk, raw_slot, raw_lit, put_some, wb_nil, ev_mv, ev_give, bin_eql, ro_int, ro_bool, List.map_cons, List.map_nil, List.getD_cons_zero, List.getD_cons_succ, List.set_cons_zero, List.set_cons_succ, List.length_cons, List.length_nil, List.replicate_succ, List.replicate_zero, List.cons_append, List.nil_append, Nat.reduceSub, true_and, Bool.false_eq_true, ↓reduceIte, Nat.zero_add]
  first | exact ⟨_, .same⟩ | exact ⟨_, .same, rfl⟩ | exact ⟨_, .same, rfl, rfl⟩
def O45 : Orc := O44.add 13 (FnC fun args r => ∃ e : Int, args = [.int .i64 e] ∧ r = .bool (e == 11))
theorem s45 : Sound Tryd.prog O45 := s44.addP c13 (by kernel_rfl) (by
  rintro args r ⟨e, rfl, rfl⟩
  exact ⟨by simp [sf13], fun st => g13 _ e st⟩)
def demV : SV := .sl [.fn 28 [] [], .int .i64 4, .fn 29 [] [], .int .i64 9, .fn 30 [] [], .int .i64 10, .fn 31 [] [], .int .i64 11, .fn 32 [] [], .int .i64 12, .fn 33 [] [], .int .i64 11] 6 (.excl 2)
theorem g21 (O : Orc) (st : List Ob) : swpF O sf21 [] st (fun r st' => r = demV ∧ st' = st) := by
  unfold demV
  simp (maxSteps := 2000000) (disch := first | omega | (simp only [List.length_append, List.length_cons, List.length_nil, List.length_map] <;> omega)) only [sf21, cv_agg, cv_int, cv_fn, cell_fn, cell_int, List.set_cons_zero, List.set_cons_succ, flg_nilS, flg_excl, exc_int, exc_agg, exc_fn, swp_seq, swp_reg, swp_ret, seqK_n, evK_some, appK_eq, srun_nil, srun_cons, fin_ret, swpF_eq, sk_give, sk_bsl, sk_bld, get_mk, raw_slot, raw_lit, put_some, wb_nil, wb_cons, ev_give, ev_bsl, ev_bld, ro_nilS, ro_excl, ro1_int, ro1_fn, got_int, got_fn, got_agg, pubs, pubsFrom, List.map_cons, List.map_nil, List.getD_cons_zero, List.getD_cons_succ, List.set_cons_zero, List.set_cons_succ, List.getElem?_cons_zero, List.length_cons, List.length_nil, List.replicate_succ, List.replicate_zero, List.cons_append, List.nil_append, Nat.reduceAdd, Nat.reduceSub, Nat.reduceMul, Nat.reduceLeDiff, Nat.reduceLT, true_and, and_true, Bool.false_eq_true, Option.map_some, ↓reduceIte, List.all_cons, List.all_nil, Bool.and_self, List.zip_cons_cons, List.zip_nil_right, rep, fillV, wrCells, List.flatten_cons, List.flatten_nil, List.append_nil, decide_true, Nat.zero_mul, Nat.zero_add, Nat.le_refl]
  first | exact ⟨_, .same⟩ | exact ⟨_, .same, rfl⟩ | exact ⟨_, .same, rfl, rfl⟩
def O46 : Orc := O45.add 21 (FnC fun args r => args = [] ∧ r = demV)
theorem s46 : Sound Tryd.prog O46 := s45.addP c21 (by kernel_rfl) (by
  rintro args r ⟨rfl, rfl⟩
  exact ⟨by simp [sf21], fun st => g21 _ st⟩)
/-- What is told of a link, from a place of the row on. -/
def demE : Nat → Int
  | 0 => 4 | 1 => 9 | 2 => 10 | 3 => 11 | 4 => 12 | _ => 11
theorem accE_dem {c : Cu} {au : Int} {m : Mf} {v : SV} {own : List Int} (hf : m.fit) {i : Nat} (h : ∀ j, j < i → dem ⟨m, c, au, v, own⟩ j = true) (hi : dem ⟨m, c, au, v, own⟩ i = false) (h6 : i < 6) : accE c au m own = demE i := by
  have hw : (rightM m && m.au == au) = true → IntKind.i64.wrap (m.ve - 1) = m.ve - 1 := by
    intro e
    rw [Bool.and_eq_true] at e
    have := right_head e.1
    exact wrap_i64 (by omega) (by omega)
  have e0 := h 0; have e1 := h 1; have e2 := h 2; have e3 := h 3; have e4 := h 4
  simp only [dem] at e0 e1 e2 e3 e4
  unfold accE
  have : i = 0 ∨ i = 1 ∨ i = 2 ∨ i = 3 ∨ i = 4 ∨ i = 5 := by omega
  rcases this with rfl | rfl | rfl | rfl | rfl | rfl
  · simp only [dem] at hi; rw [hi]; rfl
  · simp only [dem] at hi; rw [e0 (by omega), hi]; rfl
  · simp only [dem] at hi; rw [hw (e0 (by omega))] at hi; rw [e0 (by omega), e1 (by omega), hi]; rfl
  · simp only [dem] at hi; rw [hw (e0 (by omega))] at e2; rw [e0 (by omega), e1 (by omega), e2 (by omega), hi]; rfl
  · simp only [dem] at hi; rw [hw (e0 (by omega))] at e2; rw [e0 (by omega), e1 (by omega), e2 (by omega), e3 (by omega), hi]; rfl
  · simp only [dem] at hi; rw [hw (e0 (by omega))] at e2; rw [e0 (by omega), e1 (by omega), e2 (by omega), e3 (by omega), e4 (by omega), hi]; rfl
theorem accE_all {c : Cu} {au : Int} {m : Mf} {v : SV} {own : List Int} (hf : m.fit) (h : ∀ j, j < 6 → dem ⟨m, c, au, v, own⟩ j = true) : accE c au m own = 0 := by
  have e0 := h 0 (by omega); have e1 := h 1 (by omega); have e2 := h 2 (by omega); have e3 := h 3 (by omega); have e4 := h 4 (by omega); have e5 := h 5 (by omega)
  simp only [dem] at e0 e1 e2 e3 e4 e5
  have hw : IntKind.i64.wrap (m.ve - 1) = m.ve - 1 := by
    rw [Bool.and_eq_true] at e0
    have := right_head e0.1
    exact wrap_i64 (by omega) (by omega)
  rw [hw] at e2
  unfold accE
  rw [e0, e1, e2, e3, e4, e5]; rfl
theorem retOf_cell2 {p n id t : Nat} {s : S} {l : List SV} {r : SV} (h : s.get p = .ptr id 0) (h1 : s.st[id]? = some (.cells l)) (hn : n = l.length) (hr : ro (.agg l) = r) : retOf [.cell p n true, .tmp t] s = some (.tup [r, s.get t]) := by
  have := retOf_cell h h1 hn hr
  show (List.mapM (retV s) [.cell p n true, .tmp t]).map SV.tup = _
  have e : retV s (.cell p n true) = some r := this
  rw [List.mapM_cons, List.mapM_cons, e]; rfl
def KAcc : List Ob → List SV → SV → Prop := fun st args r => ∃ (c : Cu) (au : Int) (m : Mf) (head : Int) (v : SV) (own : List Int), m.ok st ∧ m.fit ∧ RowI st v own ∧ own.length ≤ 1099511627776 ∧ okSt st ∧
  args = [.agg c.cells, .int .i64 au, .agg m.cells, .int .i64 head, v] ∧ r = .tup [.agg (accC c au m head own).cells, .int .i64 (accE c au m own)]
theorem fn_acc {st : List Ob} {c : Cu} {e : Int} {s : S} {res : Nat × Nat} {x : List Ob} (h0 : s.st = st ++ x) (ho : okSt st) (h : s.get res.1 = .ptr (st.length + 2) 0) (h1 : x[2]? = some (.cells c.cells)) (h2 : s.get res.2 = .int .i64 e) {e' : Int} {c' : Cu} (he : e = e') (hc : c = c') :
    ∃ r st', retOf [.cell res.1 4 true, .tmp res.2] s = some r ∧ Trim st.length s.st st' [r] ∧ (r = .tup [.agg c'.cells, .int .i64 e'] ∧ st' = st) := by
  subst he hc
  refine ⟨.tup [.agg c.cells, .int .i64 e], st, ?_, ?_, rfl, rfl⟩
  · rw [retOf_cell2 (n := 4) (t := res.2) (id := st.length + 2) (l := c.cells) (r := .agg c.cells) h (by rw [h0, getA]; exact h1) rfl rfl, h2]
  · rw [h0]; exact trim1 ho rfl
set_option maxHeartbeats 16000000 in
theorem g11 (c : Cu) (au : Int) (m : Mf) (head : Int) (v : SV) (own : List Int) (st : List Ob) (hm : m.ok st) (hf : m.fit) (hv : RowI st v own) (hl : own.length ≤ 1099511627776) (ho : okSt st) :
    swpF O46 sf11 [.agg c.cells, .int .i64 au, .agg m.cells, .int .i64 head, v] st (fun r st' => r = .tup [.agg (accC c au m head own).cells, .int .i64 (accE c au m own)] ∧ st' = st) := by
  obtain ⟨q1, q2, q3, q4, q6, q7⟩ := hm.1.facts
  obtain ⟨u1, u2, u3, u4, u6, u7⟩ := hv.facts
  have uv := hv.cv
  have qv := hm.1.cv
  have hK : Lk.ok st ⟨m, c, au, v, own⟩ := ⟨hm, hf, hv, hl⟩
  have lk := fun x => hK.mono x
  have idv := idOk_mono (Nat.le_add_right st.length 3) _ (RowI.idOk hv)
  have o1 : okSt (st ++ [.cells [.int .i64 c.ve, .int .i64 c.he, .int .i64 c.ep, .int .i64 c.ak], .cells [.int .i64 m.au, .int .i64 m.ve, .int .i64 m.pr, .int .i64 m.ep, .int .i64 m.ne, .int .i64 m.se, .int .i64 m.sh, m.pv], .cells [.int .i64 0, .int .i64 0, .int .i64 0, .int .i64 0]]) := by
    refine okSt_appL ho ?_
    have h1 := hm.idp 3
    simp only [List.all_cons, List.all_nil, Bool.and_true, obOk, idOks, idOk, List.length_cons, List.length_nil, Nat.zero_add, Bool.true_and]
    exact h1
  have o2 : ∀ (f : FuncId) (e : Int), okSt (st ++ [.cells [.int .i64 c.ve, .int .i64 c.he, .int .i64 c.ep, .int .i64 c.ak], .cells [.int .i64 m.au, .int .i64 m.ve, .int .i64 m.pr, .int .i64 m.ep, .int .i64 m.ne, .int .i64 m.se, .int .i64 m.sh, m.pv], .cells [.int .i64 0, .int .i64 0, .int .i64 0, .int .i64 0], .cells [.fn f [] [], .int .i64 e]]) := by
    intro f e
    refine okSt_appL ho ?_
    have h1 := hm.idp 4
    simp only [List.all_cons, List.all_nil, Bool.and_true, obOk, idOks, idOk, List.length_cons, List.length_nil, Nat.zero_add, Bool.true_and]
    simpa using h1
  simp only [Cu.cells, Mf.cells]
  simp (maxSteps := 2000000) (disch := first | omega | (simp only [List.length_append, List.length_cons, List.length_nil, List.length_map] <;> omega)) only [sf11, q6, q7, cv_agg, cell_int, List.append_assoc, List.set_cons_zero, List.set_cons_succ, flg_int, exc_agg, swp_seq, swp_reg, seqK_n, evK_some, appK_eq, srun_nil, srun_cons, stepK_call, swpF_eq, sk_give, sk_box, sk_alloc, get_mk, raw_slot, raw_lit, put_some, wb_nil, ev_give, ev_box, ev_alloc, ro_int, ro1_int, got_agg, pubs, pubsFrom, List.map_cons, List.map_nil, List.getD_cons_zero, List.getD_cons_succ, List.set_cons_zero, List.set_cons_succ, List.length_cons, List.length_nil, List.replicate_succ, List.replicate_zero, List.cons_append, List.nil_append, Nat.reduceAdd, Nat.reduceSub, Bool.false_eq_true, ↓reduceIte, List.all_cons, List.all_nil, Bool.and_self, Nat.zero_add, List.length_append]
  refine callK_intro ((by repeat first | exact Or.inr ⟨rfl, rfl, rfl, rfl⟩ | refine Or.inl ?_)) ?_
  unfold demV
  simp (maxSteps := 2000000) (disch := first | omega | (simp only [List.length_append, List.length_cons, List.length_nil, List.length_map] <;> omega)) only [List.set_cons_zero, List.set_cons_succ, swp_block, seqK_n, evK_some, appK_eq, appC_eq, srun_nil, srun_cons, sk_mv, sk_lenL, get_mk, raw_slot, raw_lit, put_some, wb_nil, ev_mv, ev_lenL, ro_int, List.map_cons, List.map_nil, List.getD_cons_zero, List.getD_cons_succ, List.set_cons_zero, List.set_cons_succ, Int.cast_ofNat_Int]
  have sD := fun (f : FuncId) (e : Int) => st_aggA (st := st) (l := [.cells [.int .i64 c.ve, .int .i64 c.he, .int .i64 c.ep, .int .i64 c.ak], .cells [.int .i64 m.au, .int .i64 m.ve, .int .i64 m.pr, .int .i64 m.ep, .int .i64 m.ne, .int .i64 m.se, .int .i64 m.sh, m.pv], .cells [.int .i64 0, .int .i64 0, .int .i64 0, .int .i64 0], .cells [.nilF, .int .i64 0]]) (i := 3) (n := 2) (b := true) (xs := [.fn f [] [], .int .i64 e]) rfl rfl rfl rfl rfl
  have sZ := fun (x : Ob) => st_aggA (st := st) (l := [.cells [.int .i64 c.ve, .int .i64 c.he, .int .i64 c.ep, .int .i64 c.ak], .cells [.int .i64 m.au, .int .i64 m.ve, .int .i64 m.pr, .int .i64 m.ep, .int .i64 m.ne, .int .i64 m.se, .int .i64 m.sh, m.pv], .cells [.int .i64 0, .int .i64 0, .int .i64 0, .int .i64 0], x]) (i := 2) (n := 4) (b := true) (xs := [.int .i64 c.ve, .int .i64 c.he, .int .i64 c.ep, .int .i64 c.ak]) rfl rfl rfl rfl rfl
  have sE := st_aggA (st := st) (l := [.cells [.int .i64 c.ve, .int .i64 c.he, .int .i64 c.ep, .int .i64 c.ak], .cells [.int .i64 m.au, .int .i64 m.ve, .int .i64 m.pr, .int .i64 m.ep, .int .i64 m.ne, .int .i64 m.se, .int .i64 m.sh, m.pv], .cells [.int .i64 0, .int .i64 0, .int .i64 0, .int .i64 0]]) (i := 2) (n := 4) (b := true) (xs := [.int .i64 m.ve, .int .i64 head, .int .i64 m.ne, .int .i64 m.se]) rfl rfl rfl rfl rfl
  refine swp_lp (fun S => ∃ (i : Nat) (fl : Fl), i ≤ 6 ∧ (∀ j, j < i → dem ⟨m, c, au, v, own⟩ j = true) ∧ (i = 0 → fl = .excl 2) ∧ (0 < i → fl = .own 2) ∧
      S = ⟨[.undef, .int .i64 au, .undef, .int .i64 head, v, .ptr st.length 0, .undef, .ptr (st.length + 1) 0, .undef, .undef, .ptr (st.length + 2) 0, .int .i64 0, .undef, .undef, .sl [.fn 28 [] [], .int .i64 4, .fn 29 [] [], .int .i64 9, .fn 30 [] [], .int .i64 10, .fn 31 [] [], .int .i64 11, .fn 32 [] [], .int .i64 12, .fn 33 [] [], .int .i64 11] 6 fl, .int .i64 6, .int .i64 i] ++ List.replicate 24 .undef, st ++ [.cells [.int .i64 c.ve, .int .i64 c.he, .int .i64 c.ep, .int .i64 c.ak], .cells [.int .i64 m.au, .int .i64 m.ve, .int .i64 m.pr, .int .i64 m.ep, .int .i64 m.ne, .int .i64 m.se, .int .i64 m.sh, m.pv], .cells [.int .i64 0, .int .i64 0, .int .i64 0, .int .i64 0]]⟩)
      (fun S => match S.get 16 with | .int _ k => (6 - k).toNat | _ => 0)
      ⟨[.undef, .int .i64 au, .undef, .int .i64 head, v, .ptr st.length 0, .undef, .ptr (st.length + 1) 0, .undef, .undef, .ptr (st.length + 2) 0, .int .i64 0, .undef, .undef, .sl [.fn 28 [] [], .int .i64 4, .fn 29 [] [], .int .i64 9, .fn 30 [] [], .int .i64 10, .fn 31 [] [], .int .i64 11, .fn 32 [] [], .int .i64 12, .fn 33 [] [], .int .i64 11] 6 (.excl 2), .int .i64 6, .int .i64 0] ++ List.replicate 24 .undef, st ++ [.cells [.int .i64 c.ve, .int .i64 c.he, .int .i64 c.ep, .int .i64 c.ak], .cells [.int .i64 m.au, .int .i64 m.ve, .int .i64 m.pr, .int .i64 m.ep, .int .i64 m.ne, .int .i64 m.se, .int .i64 m.sh, m.pv], .cells [.int .i64 0, .int .i64 0, .int .i64 0, .int .i64 0]]⟩ ?_ ⟨0, .excl 2, by omega, fun j h => by omega, fun _ => rfl, fun h => by omega, rfl⟩ ?_
  · refine Forget.of ?_
    repeat first | exact fg_e | refine fg_d ?_ | refine fg_k rfl ?_
  rintro S ⟨i, fl, hi, hall, hf0, hf1, rfl⟩
  by_cases h6 : i = 6
  · subst h6
    obtain rfl := hf1 (by omega)
    have ea := accE_all hf hall
    simp (maxSteps := 2000000) (disch := first | omega | (simp only [List.length_append, List.length_cons, List.length_nil, List.length_map] <;> omega)) only [sE, cv_int, cell_int, getA, List.set_cons_zero, List.set_cons_succ, lpK_e, flg_int, exc_int, swp_seq, swp_reg, swp_ret, swp_exit, swp_cond, seqK_n, seqK_e, blkK_e, condK_f, evK_some, appK_eq, srun_nil, srun_cons, sk_mv, sk_give, sk_bin, sk_fld, sk_load, sk_store, sk_bld, get_mk, raw_slot, raw_lit, put_some, put_none, wb_nil, ev_mv, ev_give, ev_fld, bin_lss, ev_bld, ev_ldP, ldP_some, ro_int, got_int, pubs, pubsFrom, List.map_cons, List.map_nil, List.getD_cons_zero, List.getD_cons_succ, List.set_cons_zero, List.set_cons_succ, List.getElem?_cons_zero, List.getElem?_cons_succ, List.length_cons, List.length_nil, List.replicate_succ, List.replicate_zero, List.cons_append, List.nil_append, Nat.reduceAdd, Nat.reduceLeDiff, and_true, Bool.false_eq_true, Option.map_some, ↓reduceIte, List.all_cons, List.all_nil, Bool.and_self, List.zip_cons_cons, List.zip_nil_right, fillV, wrCells, decide_false, Nat.zero_add, Int.cast_ofNat_Int, Int.reduceLT, Int.reduceSub, Int.reduceToNat, List.length_append, Nat.le_refl]
    refine fn_acc (res := (10, 11)) (c := ⟨m.ve, head, m.ne, m.se⟩) (e := 0) rfl ho rfl rfl rfl ea.symm ?_
    unfold accC
    rw [if_pos ea]
  have h06 : i = 0 ∨ i = 1 ∨ i = 2 ∨ i = 3 ∨ i = 4 ∨ i = 5 := by omega
  rcases h06 with rfl | rfl | rfl | rfl | rfl | rfl
  · obtain rfl := hf0 rfl
    simp (maxSteps := 2000000) (disch := first | omega | (simp only [List.length_append, List.length_cons, List.length_nil, List.length_map] <;> omega)) only [sD, ev_ldE, uv, q6, q7, u1, u2, u3, u6, u7, cv_agg, cv_int, cell_int, getA0, getA, ev_ldA, List.drop_zero, List.take_succ_cons, List.take_zero, List.append_assoc, Nat.add_zero, List.set_cons_zero, List.set_cons_succ, stepK_callv, callvK_fn, apO_some, exc_int, exc_agg, exc_fn, sk_idxB, idxB_excl, swp_seq, swp_reg, swp_skip, swp_block, swp_cond, seqK_n, condK_t, evK_some, appK_eq, srun_nil, srun_cons, sk_mv, sk_bin, sk_fld, sk_load, sk_store, sk_bld, sk_alloc, get_mk, raw_slot, put_some, put_none, wb_nil, wb_cons, ev_mv, ev_fld, bin_lss, ev_bld, ev_alloc, ev_ldP, ldP_some, ro_int, ro_fn, ro_agg, ro1_int, ro1_fn, got_int, got_agg, pubs, pubsFrom, List.map_cons, List.map_nil, List.getD_cons_zero, List.getD_cons_succ, List.set_cons_zero, List.set_cons_succ, List.getElem?_cons_zero, List.getElem?_cons_succ, List.length_cons, List.length_nil, List.replicate_succ, List.replicate_zero, List.cons_append, List.nil_append, Nat.reduceAdd, Nat.reduceLeDiff, and_true, Bool.false_eq_true, Option.map_some, ↓reduceIte, List.all_cons, List.all_nil, Bool.and_self, List.zip_cons_cons, List.zip_nil_right, fillV, wrCells, List.append_nil, decide_true, Nat.zero_mul, Nat.zero_add, Int.cast_ofNat_Int, Int.reduceLT, Int.reduceSub, Int.reduceToNat, List.length_append, Nat.le_refl]
    refine callK_intro ((by repeat first | exact Or.inr ⟨rfl, rfl, ⟨m, c, au, v, own⟩, lk _, o2 _ _, rfl, rfl⟩ | refine Or.inl ?_)) ?_
    rcases bf (dem ⟨m, c, au, v, own⟩ 0) with e1 | e1
    · rw [e1]
      have ea := accE_dem hf hall e1 (by omega)
      simp (maxSteps := 2000000) (disch := first | omega | (simp only [List.length_append, List.length_cons, List.length_nil, List.length_map] <;> omega)) only [getA0, ev_ldA, List.drop_zero, List.take_succ_cons, List.take_zero, List.set_cons_zero, List.set_cons_succ, apO_some, swp_seq, swp_reg, swp_cond, seqK_n, condK_t, evK_some, appK_eq, appC_eq, srun_nil, srun_cons, sk_un, sk_fld, sk_load, get_mk, raw_slot, put_some, wb_nil, ev_not, ev_fld, ro_agg, ro1_int, List.map_cons, List.map_nil, List.getD_cons_zero, List.getD_cons_succ, List.set_cons_zero, List.set_cons_succ, List.getElem?_cons_zero, List.length_cons, List.length_nil, Nat.reduceAdd, ↓reduceIte, Nat.zero_add, Bool.not_false, Nat.le_refl]
      apply swp_to
      · repeat' first | exact swp_ttI | refine swp_bothI ?_ ?_ | exact ⟨rfl, rfl⟩ | exact rfl | simp (maxSteps := 2000000) (disch := first | omega | (simp only [List.length_append, List.length_cons, List.length_nil, List.length_map] <;> omega)) only [sZ, getA, List.set_cons_zero, List.set_cons_succ, flg_int, swp_reg, evK_some, appK_eq, srun_nil, srun_cons, sk_give, sk_load, sk_store, get_mk, raw_slot, put_some, put_none, wb_nil, ev_give, ev_ldP, ldP_some, ro_int, List.map_cons, List.map_nil, List.getD_cons_zero, List.getD_cons_succ, List.set_cons_zero, List.set_cons_succ, List.getElem?_cons_zero, List.getElem?_cons_succ, true_and, Bool.false_eq_true, Option.map_some, ↓reduceIte]
      simp (maxSteps := 2000000) (disch := first | omega | (simp only [List.length_append, List.length_cons, List.length_nil, List.length_map] <;> omega)) only [lpK_r, swp_ret, seqK_n, seqK_r, blkK_r]
      refine fn_acc (res := (10, 11)) (c := c) (e := 4) rfl ho rfl rfl rfl ea.symm ?_
      unfold accC
      rw [if_neg (by rw [ea]; decide)]
    · rw [e1]
      simp (maxSteps := 2000000) (disch := first | omega | (simp only [List.length_append, List.length_cons, List.length_nil, List.length_map] <;> omega)) only [List.set_cons_zero, List.set_cons_succ, lpK_n, swp_reg, swp_skip, swp_cond, seqK_n, blkK_n, condK_f, evK_some, appK_eq, appC_eq, srun_nil, srun_cons, sk_mv, sk_bin, sk_un, get_mk, raw_slot, raw_lit, put_some, wb_nil, ev_mv, ev_not, bin_add, ro_int, List.map_cons, List.map_nil, List.getD_cons_zero, List.getD_cons_succ, List.set_cons_zero, List.set_cons_succ, Bool.not_true, Int.reduceAdd, wrap_i64]
      refine ⟨_, Forget.cutA (l := [_, _, _]) (x := [_]) ?_ (by simp) ?_ o1, ⟨1, .own 2, by omega, fun j hj => ?_, fun h => by omega, fun _ => rfl, rfl⟩, by show ((6 : Int) - ((1 : Nat) : Int)).toNat < ((6 : Int) - ((0 : Nat) : Int)).toNat; decide⟩
      · repeat first | exact fg_e | refine fg_d ?_ | refine fg_k rfl ?_
      · simp [idOks, idOk, idv]
      · rcases Nat.lt_succ_iff_lt_or_eq.1 hj with h | rfl
        · exact hall j h
        · exact e1
  · obtain rfl := hf1 (by omega)
    simp (maxSteps := 2000000) (disch := first | omega | (simp only [List.length_append, List.length_cons, List.length_nil, List.length_map] <;> omega)) only [sD, ev_ldE, uv, q6, q7, u1, u2, u3, u6, u7, cv_agg, cv_int, cell_int, getA0, getA, ev_ldA, List.drop_succ_cons, List.drop_zero, List.take_succ_cons, List.take_zero, List.append_assoc, Nat.add_zero, List.set_cons_zero, List.set_cons_succ, stepK_callv, callvK_fn, apO_some, exc_int, exc_agg, exc_fn, sk_idxB, idxB_own, swp_seq, swp_reg, swp_skip, swp_block, swp_cond, seqK_n, condK_t, evK_some, appK_eq, srun_nil, srun_cons, sk_mv, sk_bin, sk_fld, sk_load, sk_store, sk_bld, sk_alloc, get_mk, raw_slot, put_some, put_none, wb_nil, ev_mv, ev_fld, bin_lss, ev_bld, ev_alloc, ev_ldP, ldP_some, ro_int, ro_fn, ro_agg, ro1_int, ro1_fn, got_int, got_agg, pubs, pubsFrom, List.map_cons, List.map_nil, List.getD_cons_zero, List.getD_cons_succ, List.set_cons_zero, List.set_cons_succ, List.getElem?_cons_zero, List.getElem?_cons_succ, List.length_cons, List.length_nil, List.replicate_succ, List.replicate_zero, List.cons_append, List.nil_append, Nat.reduceAdd, Nat.reduceMul, Nat.reduceLeDiff, and_true, Bool.false_eq_true, Option.map_some, ↓reduceIte, List.all_cons, List.all_nil, Bool.and_self, List.zip_cons_cons, List.zip_nil_right, fillV, wrCells, List.append_nil, decide_true, Nat.zero_add, Int.cast_ofNat_Int, Int.reduceLT, Int.reduceSub, Int.reduceToNat, List.length_append, Nat.le_refl]
    refine callK_intro ((by repeat first | exact Or.inr ⟨rfl, rfl, ⟨m, c, au, v, own⟩, lk _, o2 _ _, rfl, rfl⟩ | refine Or.inl ?_)) ?_
    rcases bf (dem ⟨m, c, au, v, own⟩ 1) with e1 | e1
    · rw [e1]
      have ea := accE_dem hf hall e1 (by omega)
      simp (maxSteps := 2000000) (disch := first | omega | (simp only [List.length_append, List.length_cons, List.length_nil, List.length_map] <;> omega)) only [getA0, ev_ldA, List.drop_zero, List.take_succ_cons, List.take_zero, List.set_cons_zero, List.set_cons_succ, apO_some, swp_seq, swp_reg, swp_cond, seqK_n, condK_t, evK_some, appK_eq, appC_eq, srun_nil, srun_cons, sk_un, sk_fld, sk_load, get_mk, raw_slot, put_some, wb_nil, ev_not, ev_fld, ro_agg, ro1_int, List.map_cons, List.map_nil, List.getD_cons_zero, List.getD_cons_succ, List.set_cons_zero, List.set_cons_succ, List.getElem?_cons_zero, List.length_cons, List.length_nil, Nat.reduceAdd, ↓reduceIte, Nat.zero_add, Bool.not_false, Nat.le_refl]
      apply swp_to
      · repeat' first | exact swp_ttI | refine swp_bothI ?_ ?_ | exact ⟨rfl, rfl⟩ | exact rfl | simp (maxSteps := 2000000) (disch := first | omega | (simp only [List.length_append, List.length_cons, List.length_nil, List.length_map] <;> omega)) only [sZ, getA, List.set_cons_zero, List.set_cons_succ, flg_int, swp_reg, evK_some, appK_eq, srun_nil, srun_cons, sk_give, sk_load, sk_store, get_mk, raw_slot, put_some, put_none, wb_nil, ev_give, ev_ldP, ldP_some, ro_int, List.map_cons, List.map_nil, List.getD_cons_zero, List.getD_cons_succ, List.set_cons_zero, List.set_cons_succ, List.getElem?_cons_zero, List.getElem?_cons_succ, true_and, Bool.false_eq_true, Option.map_some, ↓reduceIte]
      simp (maxSteps := 2000000) (disch := first | omega | (simp only [List.length_append, List.length_cons, List.length_nil, List.length_map] <;> omega)) only [lpK_r, swp_ret, seqK_n, seqK_r, blkK_r]
      refine fn_acc (res := (10, 11)) (c := c) (e := 9) rfl ho rfl rfl rfl ea.symm ?_
      unfold accC
      rw [if_neg (by rw [ea]; decide)]
    · rw [e1]
      simp (maxSteps := 2000000) (disch := first | omega | (simp only [List.length_append, List.length_cons, List.length_nil, List.length_map] <;> omega)) only [List.set_cons_zero, List.set_cons_succ, lpK_n, swp_reg, swp_skip, swp_cond, seqK_n, blkK_n, condK_f, evK_some, appK_eq, appC_eq, srun_nil, srun_cons, sk_mv, sk_bin, sk_un, get_mk, raw_slot, raw_lit, put_some, wb_nil, ev_mv, ev_not, bin_add, ro_int, List.map_cons, List.map_nil, List.getD_cons_zero, List.getD_cons_succ, List.set_cons_zero, List.set_cons_succ, Bool.not_true, Int.reduceAdd, wrap_i64]
      refine ⟨_, Forget.cutA (l := [_, _, _]) (x := [_]) ?_ (by simp) ?_ o1, ⟨2, .own 2, by omega, fun j hj => ?_, fun h => by omega, fun _ => rfl, rfl⟩, by show ((6 : Int) - ((2 : Nat) : Int)).toNat < ((6 : Int) - ((1 : Nat) : Int)).toNat; decide⟩
      · repeat first | exact fg_e | refine fg_d ?_ | refine fg_k rfl ?_
      · simp [idOks, idOk, idv]
      · rcases Nat.lt_succ_iff_lt_or_eq.1 hj with h | rfl
        · exact hall j h
        · exact e1
  · obtain rfl := hf1 (by omega)
    simp (maxSteps := 2000000) (disch := first | omega | (simp only [List.length_append, List.length_cons, List.length_nil, List.length_map] <;> omega)) only [sD, ev_ldE, uv, q6, q7, u1, u2, u3, u6, u7, cv_agg, cv_int, cell_int, getA0, getA, ev_ldA, List.drop_succ_cons, List.drop_zero, List.take_succ_cons, List.take_zero, List.append_assoc, Nat.add_zero, List.set_cons_zero, List.set_cons_succ, stepK_callv, callvK_fn, apO_some, exc_int, exc_agg, exc_fn, sk_idxB, idxB_own, swp_seq, swp_reg, swp_skip, swp_block, swp_cond, seqK_n, condK_t, evK_some, appK_eq, srun_nil, srun_cons, sk_mv, sk_bin, sk_fld, sk_load, sk_store, sk_bld, sk_alloc, get_mk, raw_slot, put_some, put_none, wb_nil, ev_mv, ev_fld, bin_lss, ev_bld, ev_alloc, ev_ldP, ldP_some, ro_int, ro_fn, ro_agg, ro1_int, ro1_fn, got_int, got_agg, pubs, pubsFrom, List.map_cons, List.map_nil, List.getD_cons_zero, List.getD_cons_succ, List.set_cons_zero, List.set_cons_succ, List.getElem?_cons_zero, List.getElem?_cons_succ, List.length_cons, List.length_nil, List.replicate_succ, List.replicate_zero, List.cons_append, List.nil_append, Nat.reduceAdd, Nat.reduceMul, Nat.reduceLeDiff, and_true, Bool.false_eq_true, Option.map_some, ↓reduceIte, List.all_cons, List.all_nil, Bool.and_self, List.zip_cons_cons, List.zip_nil_right, fillV, wrCells, List.append_nil, decide_true, Nat.zero_add, Int.cast_ofNat_Int, Int.reduceLT, Int.reduceSub, Int.reduceToNat, List.length_append, Nat.le_refl]
    refine callK_intro ((by repeat first | exact Or.inr ⟨rfl, rfl, ⟨m, c, au, v, own⟩, lk _, o2 _ _, rfl, rfl⟩ | refine Or.inl ?_)) ?_
    rcases bf (dem ⟨m, c, au, v, own⟩ 2) with e1 | e1
    · rw [e1]
      have ea := accE_dem hf hall e1 (by omega)
      simp (maxSteps := 2000000) (disch := first | omega | (simp only [List.length_append, List.length_cons, List.length_nil, List.length_map] <;> omega)) only [getA0, ev_ldA, List.drop_zero, List.take_succ_cons, List.take_zero, List.set_cons_zero, List.set_cons_succ, apO_some, swp_seq, swp_reg, swp_cond, seqK_n, condK_t, evK_some, appK_eq, appC_eq, srun_nil, srun_cons, sk_un, sk_fld, sk_load, get_mk, raw_slot, put_some, wb_nil, ev_not, ev_fld, ro_agg, ro1_int, List.map_cons, List.map_nil, List.getD_cons_zero, List.getD_cons_succ, List.set_cons_zero, List.set_cons_succ, List.getElem?_cons_zero, List.length_cons, List.length_nil, Nat.reduceAdd, ↓reduceIte, Nat.zero_add, Bool.not_false, Nat.le_refl]
      apply swp_to
      · repeat' first | exact swp_ttI | refine swp_bothI ?_ ?_ | exact ⟨rfl, rfl⟩ | exact rfl | simp (maxSteps := 2000000) (disch := first | omega | (simp only [List.length_append, List.length_cons, List.length_nil, List.length_map] <;> omega)) only [sZ, getA, List.set_cons_zero, List.set_cons_succ, flg_int, swp_reg, evK_some, appK_eq, srun_nil, srun_cons, sk_give, sk_load, sk_store, get_mk, raw_slot, put_some, put_none, wb_nil, ev_give, ev_ldP, ldP_some, ro_int, List.map_cons, List.map_nil, List.getD_cons_zero, List.getD_cons_succ, List.set_cons_zero, List.set_cons_succ, List.getElem?_cons_zero, List.getElem?_cons_succ, true_and, Bool.false_eq_true, Option.map_some, ↓reduceIte]
      simp (maxSteps := 2000000) (disch := first | omega | (simp only [List.length_append, List.length_cons, List.length_nil, List.length_map] <;> omega)) only [lpK_r, swp_ret, seqK_n, seqK_r, blkK_r]
      refine fn_acc (res := (10, 11)) (c := c) (e := 10) rfl ho rfl rfl rfl ea.symm ?_
      unfold accC
      rw [if_neg (by rw [ea]; decide)]
    · rw [e1]
      simp (maxSteps := 2000000) (disch := first | omega | (simp only [List.length_append, List.length_cons, List.length_nil, List.length_map] <;> omega)) only [List.set_cons_zero, List.set_cons_succ, lpK_n, swp_reg, swp_skip, swp_cond, seqK_n, blkK_n, condK_f, evK_some, appK_eq, appC_eq, srun_nil, srun_cons, sk_mv, sk_bin, sk_un, get_mk, raw_slot, raw_lit, put_some, wb_nil, ev_mv, ev_not, bin_add, ro_int, List.map_cons, List.map_nil, List.getD_cons_zero, List.getD_cons_succ, List.set_cons_zero, List.set_cons_succ, Bool.not_true, Int.reduceAdd, wrap_i64]
      refine ⟨_, Forget.cutA (l := [_, _, _]) (x := [_]) ?_ (by simp) ?_ o1, ⟨3, .own 2, by omega, fun j hj => ?_, fun h => by omega, fun _ => rfl, rfl⟩, by show ((6 : Int) - ((3 : Nat) : Int)).toNat < ((6 : Int) - ((2 : Nat) : Int)).toNat; decide⟩
      · repeat first | exact fg_e | refine fg_d ?_ | refine fg_k rfl ?_
      · simp [idOks, idOk, idv]
      · rcases Nat.lt_succ_iff_lt_or_eq.1 hj with h | rfl
        · exact hall j h
        · exact e1
  · obtain rfl := hf1 (by omega)
    simp (maxSteps := 2000000) (disch := first | omega | (simp only [List.length_append, List.length_cons, List.length_nil, List.length_map] <;> omega)) only [sD, ev_ldE, uv, q6, q7, u1, u2, u3, u6, u7, cv_agg, cv_int, cell_int, getA0, getA, ev_ldA, List.drop_succ_cons, List.drop_zero, List.take_succ_cons, List.take_zero, List.append_assoc, Nat.add_zero, List.set_cons_zero, List.set_cons_succ, stepK_callv, callvK_fn, apO_some, exc_int, exc_agg, exc_fn, sk_idxB, idxB_own, swp_seq, swp_reg, swp_skip, swp_block, swp_cond, seqK_n, condK_t, evK_some, appK_eq, srun_nil, srun_cons, sk_mv, sk_bin, sk_fld, sk_load, sk_store, sk_bld, sk_alloc, get_mk, raw_slot, put_some, put_none, wb_nil, ev_mv, ev_fld, bin_lss, ev_bld, ev_alloc, ev_ldP, ldP_some, ro_int, ro_fn, ro_agg, ro1_int, ro1_fn, got_int, got_agg, pubs, pubsFrom, List.map_cons, List.map_nil, List.getD_cons_zero, List.getD_cons_succ, List.set_cons_zero, List.set_cons_succ, List.getElem?_cons_zero, List.getElem?_cons_succ, List.length_cons, List.length_nil, List.replicate_succ, List.replicate_zero, List.cons_append, List.nil_append, Nat.reduceAdd, Nat.reduceMul, Nat.reduceLeDiff, and_true, Bool.false_eq_true, Option.map_some, ↓reduceIte, List.all_cons, List.all_nil, Bool.and_self, List.zip_cons_cons, List.zip_nil_right, fillV, wrCells, List.append_nil, decide_true, Nat.zero_add, Int.cast_ofNat_Int, Int.reduceLT, Int.reduceSub, Int.reduceToNat, List.length_append, Nat.le_refl]
    refine callK_intro ((by repeat first | exact Or.inr ⟨rfl, rfl, ⟨m, c, au, v, own⟩, lk _, o2 _ _, rfl, rfl⟩ | refine Or.inl ?_)) ?_
    rcases bf (dem ⟨m, c, au, v, own⟩ 3) with e1 | e1
    · rw [e1]
      have ea := accE_dem hf hall e1 (by omega)
      simp (maxSteps := 2000000) (disch := first | omega | (simp only [List.length_append, List.length_cons, List.length_nil, List.length_map] <;> omega)) only [getA0, ev_ldA, List.drop_zero, List.take_succ_cons, List.take_zero, List.set_cons_zero, List.set_cons_succ, apO_some, swp_seq, swp_reg, swp_cond, seqK_n, condK_t, evK_some, appK_eq, appC_eq, srun_nil, srun_cons, sk_un, sk_fld, sk_load, get_mk, raw_slot, put_some, wb_nil, ev_not, ev_fld, ro_agg, ro1_int, List.map_cons, List.map_nil, List.getD_cons_zero, List.getD_cons_succ, List.set_cons_zero, List.set_cons_succ, List.getElem?_cons_zero, List.length_cons, List.length_nil, Nat.reduceAdd, ↓reduceIte, Nat.zero_add, Bool.not_false, Nat.le_refl]
      apply swp_to
      · repeat' first | exact swp_ttI | refine swp_bothI ?_ ?_ | exact ⟨rfl, rfl⟩ | exact rfl | simp (maxSteps := 2000000) (disch := first | omega | (simp only [List.length_append, List.length_cons, List.length_nil, List.length_map] <;> omega)) only [sZ, getA, List.set_cons_zero, List.set_cons_succ, flg_int, swp_reg, evK_some, appK_eq, srun_nil, srun_cons, sk_give, sk_load, sk_store, get_mk, raw_slot, put_some, put_none, wb_nil, ev_give, ev_ldP, ldP_some, ro_int, List.map_cons, List.map_nil, List.getD_cons_zero, List.getD_cons_succ, List.set_cons_zero, List.set_cons_succ, List.getElem?_cons_zero, List.getElem?_cons_succ, true_and, Bool.false_eq_true, Option.map_some, ↓reduceIte]
      simp (maxSteps := 2000000) (disch := first | omega | (simp only [List.length_append, List.length_cons, List.length_nil, List.length_map] <;> omega)) only [lpK_r, swp_ret, seqK_n, seqK_r, blkK_r]
      refine fn_acc (res := (10, 11)) (c := c) (e := 11) rfl ho rfl rfl rfl ea.symm ?_
      unfold accC
      rw [if_neg (by rw [ea]; decide)]
    · rw [e1]
      simp (maxSteps := 2000000) (disch := first | omega | (simp only [List.length_append, List.length_cons, List.length_nil, List.length_map] <;> omega)) only [List.set_cons_zero, List.set_cons_succ, lpK_n, swp_reg, swp_skip, swp_cond, seqK_n, blkK_n, condK_f, evK_some, appK_eq, appC_eq, srun_nil, srun_cons, sk_mv, sk_bin, sk_un, get_mk, raw_slot, raw_lit, put_some, wb_nil, ev_mv, ev_not, bin_add, ro_int, List.map_cons, List.map_nil, List.getD_cons_zero, List.getD_cons_succ, List.set_cons_zero, List.set_cons_succ, Bool.not_true, Int.reduceAdd, wrap_i64]
      refine ⟨_, Forget.cutA (l := [_, _, _]) (x := [_]) ?_ (by simp) ?_ o1, ⟨4, .own 2, by omega, fun j hj => ?_, fun h => by omega, fun _ => rfl, rfl⟩, by show ((6 : Int) - ((4 : Nat) : Int)).toNat < ((6 : Int) - ((3 : Nat) : Int)).toNat; decide⟩
      · repeat first | exact fg_e | refine fg_d ?_ | refine fg_k rfl ?_
      · simp [idOks, idOk, idv]
      · rcases Nat.lt_succ_iff_lt_or_eq.1 hj with h | rfl
        · exact hall j h
        · exact e1
  · obtain rfl := hf1 (by omega)
    simp (maxSteps := 2000000) (disch := first | omega | (simp only [List.length_append, List.length_cons, List.length_nil, List.length_map] <;> omega)) only [sD, ev_ldE, uv, q6, q7, u1, u2, u3, u6, u7, cv_agg, cv_int, cell_int, getA0, getA, ev_ldA, List.drop_succ_cons, List.drop_zero, List.take_succ_cons, List.take_zero, List.append_assoc, Nat.add_zero, List.set_cons_zero, List.set_cons_succ, stepK_callv, callvK_fn, apO_some, exc_int, exc_agg, exc_fn, sk_idxB, idxB_own, swp_seq, swp_reg, swp_skip, swp_block, swp_cond, seqK_n, condK_t, evK_some, appK_eq, srun_nil, srun_cons, sk_mv, sk_bin, sk_fld, sk_load, sk_store, sk_bld, sk_alloc, get_mk, raw_slot, put_some, put_none, wb_nil, ev_mv, ev_fld, bin_lss, ev_bld, ev_alloc, ev_ldP, ldP_some, ro_int, ro_fn, ro_agg, ro1_int, ro1_fn, got_int, got_agg, pubs, pubsFrom, List.map_cons, List.map_nil, List.getD_cons_zero, List.getD_cons_succ, List.set_cons_zero, List.set_cons_succ, List.getElem?_cons_zero, List.getElem?_cons_succ, List.length_cons, List.length_nil, List.replicate_succ, List.replicate_zero, List.cons_append, List.nil_append, Nat.reduceAdd, Nat.reduceMul, Nat.reduceLeDiff, and_true, Bool.false_eq_true, Option.map_some, ↓reduceIte, List.all_cons, List.all_nil, Bool.and_self, List.zip_cons_cons, List.zip_nil_right, fillV, wrCells, List.append_nil, decide_true, Nat.zero_add, Int.cast_ofNat_Int, Int.reduceLT, Int.reduceSub, Int.reduceToNat, List.length_append, Nat.le_refl]
    refine callK_intro ((by repeat first | exact Or.inr ⟨rfl, rfl, ⟨m, c, au, v, own⟩, lk _, o2 _ _, rfl, rfl⟩ | refine Or.inl ?_)) ?_
    rcases bf (dem ⟨m, c, au, v, own⟩ 4) with e1 | e1
    · rw [e1]
      have ea := accE_dem hf hall e1 (by omega)
      simp (maxSteps := 2000000) (disch := first | omega | (simp only [List.length_append, List.length_cons, List.length_nil, List.length_map] <;> omega)) only [getA0, ev_ldA, List.drop_zero, List.take_succ_cons, List.take_zero, List.set_cons_zero, List.set_cons_succ, apO_some, swp_seq, swp_reg, swp_cond, seqK_n, condK_t, evK_some, appK_eq, appC_eq, srun_nil, srun_cons, sk_un, sk_fld, sk_load, get_mk, raw_slot, put_some, wb_nil, ev_not, ev_fld, ro_agg, ro1_int, List.map_cons, List.map_nil, List.getD_cons_zero, List.getD_cons_succ, List.set_cons_zero, List.set_cons_succ, List.getElem?_cons_zero, List.length_cons, List.length_nil, Nat.reduceAdd, ↓reduceIte, Nat.zero_add, Bool.not_false, Nat.le_refl]
      apply swp_to
      · repeat' first | exact swp_ttI | refine swp_bothI ?_ ?_ | exact ⟨rfl, rfl⟩ | exact rfl | simp (maxSteps := 2000000) (disch := first | omega | (simp only [List.length_append, List.length_cons, List.length_nil, List.length_map] <;> omega)) only [sZ, getA, List.set_cons_zero, List.set_cons_succ, flg_int, swp_reg, evK_some, appK_eq, srun_nil, srun_cons, sk_give, sk_load, sk_store, get_mk, raw_slot, put_some, put_none, wb_nil, ev_give, ev_ldP, ldP_some, ro_int, List.map_cons, List.map_nil, List.getD_cons_zero, List.getD_cons_succ, List.set_cons_zero, List.set_cons_succ, List.getElem?_cons_zero, List.getElem?_cons_succ, true_and, Bool.false_eq_true, Option.map_some, ↓reduceIte]
      simp (maxSteps := 2000000) (disch := first | omega | (simp only [List.length_append, List.length_cons, List.length_nil, List.length_map] <;> omega)) only [lpK_r, swp_ret, seqK_n, seqK_r, blkK_r]
      refine fn_acc (res := (10, 11)) (c := c) (e := 12) rfl ho rfl rfl rfl ea.symm ?_
      unfold accC
      rw [if_neg (by rw [ea]; decide)]
    · rw [e1]
      simp (maxSteps := 2000000) (disch := first | omega | (simp only [List.length_append, List.length_cons, List.length_nil, List.length_map] <;> omega)) only [List.set_cons_zero, List.set_cons_succ, lpK_n, swp_reg, swp_skip, swp_cond, seqK_n, blkK_n, condK_f, evK_some, appK_eq, appC_eq, srun_nil, srun_cons, sk_mv, sk_bin, sk_un, get_mk, raw_slot, raw_lit, put_some, wb_nil, ev_mv, ev_not, bin_add, ro_int, List.map_cons, List.map_nil, List.getD_cons_zero, List.getD_cons_succ, List.set_cons_zero, List.set_cons_succ, Bool.not_true, Int.reduceAdd, wrap_i64]
      refine ⟨_, Forget.cutA (l := [_, _, _]) (x := [_]) ?_ (by simp) ?_ o1, ⟨5, .own 2, by omega, fun j hj => ?_, fun h => by omega, fun _ => rfl, rfl⟩, by show ((6 : Int) - ((5 : Nat) : Int)).toNat < ((6 : Int) - ((4 : Nat) : Int)).toNat; decide⟩
      · repeat first | exact fg_e | refine fg_d ?_ | refine fg_k rfl ?_
      · simp [idOks, idOk, idv]
      · rcases Nat.lt_succ_iff_lt_or_eq.1 hj with h | rfl
        · exact hall j h
        · exact e1
  · obtain rfl := hf1 (by omega)
    simp (maxSteps := 2000000) (disch := first | omega | (simp only [List.length_append, List.length_cons, List.length_nil, List.length_map] <;> omega)) only [sD, ev_ldE, uv, q6, q7, u1, u2, u3, u6, u7, cv_agg, cv_int, cell_int, getA0, getA, ev_ldA, List.drop_succ_cons, List.drop_zero, List.take_succ_cons, List.take_zero, List.append_assoc, Nat.add_zero, List.set_cons_zero, List.set_cons_succ, stepK_callv, callvK_fn, apO_some, exc_int, exc_agg, exc_fn, sk_idxB, idxB_own, swp_seq, swp_reg, swp_skip, swp_block, swp_cond, seqK_n, condK_t, evK_some, appK_eq, srun_nil, srun_cons, sk_mv, sk_bin, sk_fld, sk_load, sk_store, sk_bld, sk_alloc, get_mk, raw_slot, put_some, put_none, wb_nil, ev_mv, ev_fld, bin_lss, ev_bld, ev_alloc, ev_ldP, ldP_some, ro_int, ro_fn, ro_agg, ro1_int, ro1_fn, got_int, got_agg, pubs, pubsFrom, List.map_cons, List.map_nil, List.getD_cons_zero, List.getD_cons_succ, List.set_cons_zero, List.set_cons_succ, List.getElem?_cons_zero, List.getElem?_cons_succ, List.length_cons, List.length_nil, List.replicate_succ, List.replicate_zero, List.cons_append, List.nil_append, Nat.reduceAdd, Nat.reduceMul, Nat.reduceLeDiff, and_true, Bool.false_eq_true, Option.map_some, ↓reduceIte, List.all_cons, List.all_nil, Bool.and_self, List.zip_cons_cons, List.zip_nil_right, fillV, wrCells, List.append_nil, decide_true, Nat.zero_add, Int.cast_ofNat_Int, Int.reduceLT, Int.reduceSub, Int.reduceToNat, List.length_append, Nat.le_refl]
    refine callK_intro ((by repeat first | exact Or.inr ⟨rfl, rfl, ⟨m, c, au, v, own⟩, lk _, o2 _ _, rfl, rfl⟩ | refine Or.inl ?_)) ?_
    rcases bf (dem ⟨m, c, au, v, own⟩ 5) with e1 | e1
    · rw [e1]
      have ea := accE_dem hf hall e1 (by omega)
      simp (maxSteps := 2000000) (disch := first | omega | (simp only [List.length_append, List.length_cons, List.length_nil, List.length_map] <;> omega)) only [getA0, ev_ldA, List.drop_zero, List.take_succ_cons, List.take_zero, List.set_cons_zero, List.set_cons_succ, apO_some, swp_seq, swp_reg, swp_cond, seqK_n, condK_t, evK_some, appK_eq, appC_eq, srun_nil, srun_cons, sk_un, sk_fld, sk_load, get_mk, raw_slot, put_some, wb_nil, ev_not, ev_fld, ro_agg, ro1_int, List.map_cons, List.map_nil, List.getD_cons_zero, List.getD_cons_succ, List.set_cons_zero, List.set_cons_succ, List.getElem?_cons_zero, List.length_cons, List.length_nil, Nat.reduceAdd, ↓reduceIte, Nat.zero_add, Bool.not_false, Nat.le_refl]
      apply swp_to
      · repeat' first | exact swp_ttI | refine swp_bothI ?_ ?_ | exact ⟨rfl, rfl⟩ | exact rfl | simp (maxSteps := 2000000) (disch := first | omega | (simp only [List.length_append, List.length_cons, List.length_nil, List.length_map] <;> omega)) only [sZ, getA, List.set_cons_zero, List.set_cons_succ, flg_int, swp_reg, evK_some, appK_eq, srun_nil, srun_cons, sk_give, sk_load, sk_store, get_mk, raw_slot, put_some, put_none, wb_nil, ev_give, ev_ldP, ldP_some, ro_int, List.map_cons, List.map_nil, List.getD_cons_zero, List.getD_cons_succ, List.set_cons_zero, List.set_cons_succ, List.getElem?_cons_zero, List.getElem?_cons_succ, true_and, Bool.false_eq_true, Option.map_some, ↓reduceIte]
      simp (maxSteps := 2000000) (disch := first | omega | (simp only [List.length_append, List.length_cons, List.length_nil, List.length_map] <;> omega)) only [lpK_r, swp_ret, seqK_n, seqK_r, blkK_r]
      refine fn_acc (res := (10, 11)) (c := c) (e := 11) rfl ho rfl rfl rfl ea.symm ?_
      unfold accC
      rw [if_neg (by rw [ea]; decide)]
    · rw [e1]
      simp (maxSteps := 2000000) (disch := first | omega | (simp only [List.length_append, List.length_cons, List.length_nil, List.length_map] <;> omega)) only [List.set_cons_zero, List.set_cons_succ, lpK_n, swp_reg, swp_skip, swp_cond, seqK_n, blkK_n, condK_f, evK_some, appK_eq, appC_eq, srun_nil, srun_cons, sk_mv, sk_bin, sk_un, get_mk, raw_slot, raw_lit, put_some, wb_nil, ev_mv, ev_not, bin_add, ro_int, List.map_cons, List.map_nil, List.getD_cons_zero, List.getD_cons_succ, List.set_cons_zero, List.set_cons_succ, Bool.not_true, Int.reduceAdd, wrap_i64]
      refine ⟨_, Forget.cutA (l := [_, _, _]) (x := [_]) ?_ (by simp) ?_ o1, ⟨6, .own 2, by omega, fun j hj => ?_, fun h => by omega, fun _ => rfl, rfl⟩, by show ((6 : Int) - ((6 : Nat) : Int)).toNat < ((6 : Int) - ((5 : Nat) : Int)).toNat; decide⟩
      · repeat first | exact fg_e | refine fg_d ?_ | refine fg_k rfl ?_
      · simp [idOks, idOk, idv]
      · rcases Nat.lt_succ_iff_lt_or_eq.1 hj with h | rfl
        · exact hall j h
        · exact e1
def O47 : Orc := O46.add 11 (StC KAcc)
theorem s47 : Sound Tryd.prog O47 := s46.addS c11 (by kernel_rfl) (by
  rintro args r st ⟨c, au, m, head, v, own, hm, hf, hv, hl, ho, rfl, rfl⟩
  exact ⟨by simp [sf11], g11 c au m head v own st hm hf hv hl ho⟩)
end Go.Sh.F
namespace Go.Sh.F
open Go.PathLaw Go.Proofs
set_option maxHeartbeats 16000000 in
theorem g12 (c : Cu) (au : Int) (m : Mf) (head : Int) (v : SV) (own : List Int) (st : List Ob) (hm : m.ok st) (hf : m.fit) (hv : RowI st v own) (hl : own.length ≤ 1099511627776) (ho : okSt st) :
    swpF O47 sf12 [.agg c.cells, .int .i64 au, .agg m.cells, .int .i64 head, v] st (fun r st' => r = .tup [.agg (accC c au m head own).cells, .int .i64 (accE c au m own)] ∧ st' = st) := by
  obtain ⟨q1, q2, q3, q4, q6, q7⟩ := hm.1.facts
  obtain ⟨u1, u2, u3, u4, u6, u7⟩ := hv.facts
  have uv := hv.cv
  have qv := hm.1.cv
  have mk := fun x => hm.mono x
  have vk := fun x => RowAt.mono hv x
  have o1 : okSt (st ++ [.cells [.int .i64 c.ve, .int .i64 c.he, .int .i64 c.ep, .int .i64 c.ak], .cells [.int .i64 m.au, .int .i64 m.ve, .int .i64 m.pr, .int .i64 m.ep, .int .i64 m.ne, .int .i64 m.se, .int .i64 m.sh, m.pv], .cells [.int .i64 0, .int .i64 0, .int .i64 0, .int .i64 0]]) := by
    refine okSt_appL ho ?_
    have h1 := hm.idp 3
    simp only [List.all_cons, List.all_nil, Bool.and_true, obOk, idOks, idOk, List.length_cons, List.length_nil, Nat.zero_add, Bool.true_and]
    exact h1
  have sZ := st_aggA (st := st) (l := [.cells [.int .i64 c.ve, .int .i64 c.he, .int .i64 c.ep, .int .i64 c.ak], .cells [.int .i64 m.au, .int .i64 m.ve, .int .i64 m.pr, .int .i64 m.ep, .int .i64 m.ne, .int .i64 m.se, .int .i64 m.sh, m.pv], .cells [.int .i64 0, .int .i64 0, .int .i64 0, .int .i64 0]]) (i := 2) (n := 4) (b := true) (xs := [.int .i64 c.ve, .int .i64 c.he, .int .i64 c.ep, .int .i64 c.ak]) rfl rfl rfl rfl rfl
  have sE := st_aggA (st := st) (l := [.cells [.int .i64 c.ve, .int .i64 c.he, .int .i64 c.ep, .int .i64 c.ak], .cells [.int .i64 m.au, .int .i64 m.ve, .int .i64 m.pr, .int .i64 m.ep, .int .i64 m.ne, .int .i64 m.se, .int .i64 m.sh, m.pv], .cells [.int .i64 0, .int .i64 0, .int .i64 0, .int .i64 0]]) (i := 2) (n := 4) (b := true) (xs := [.int .i64 m.ve, .int .i64 head, .int .i64 m.ne, .int .i64 m.se]) rfl rfl rfl rfl rfl
  simp only [Cu.cells, Mf.cells]
  simp (maxSteps := 2000000) (disch := first | omega | (simp only [List.length_append, List.length_cons, List.length_nil, List.length_map] <;> omega)) only [sf12, q6, q7, cv_agg, cell_int, getA, ev_ldA, List.drop_zero, List.take_succ_cons, List.take_zero, List.append_assoc, List.set_cons_zero, List.set_cons_succ, apO_some, flg_int, exc_agg, swp_seq, swp_reg, seqK_n, evK_some, appK_eq, srun_nil, srun_cons, stepK_call, swpF_eq, sk_give, sk_load, sk_box, sk_alloc, get_mk, raw_slot, raw_lit, put_some, wb_nil, ev_give, ev_box, ev_alloc, ro_int, ro_agg, ro1_int, got_agg, pubs, pubsFrom, List.map_cons, List.map_nil, List.getD_cons_zero, List.getD_cons_succ, List.set_cons_zero, List.set_cons_succ, List.getElem?_cons_zero, List.getElem?_cons_succ, List.length_cons, List.length_nil, List.replicate_succ, List.replicate_zero, List.cons_append, List.nil_append, Nat.reduceAdd, Nat.reduceSub, Bool.false_eq_true, ↓reduceIte, List.all_cons, List.all_nil, Bool.and_self, Nat.zero_add, List.length_append, Nat.le_refl]
  refine callK_intro ((.inl (.inl (.inl (.inl (.inl (.inl (.inl (.inl (.inl (r22 (mk _) hf o1))))))))))) ?_
  rcases bf (rightM m) with h1 | h1
  · rw [h1]
    have ea : accE c au m own = 4 := by simp [accE, h1]
    simp (maxSteps := 2000000) (disch := first | omega | (simp only [List.length_append, List.length_cons, List.length_nil, List.length_map] <;> omega)) only [sZ, getA0, ev_ldA, List.drop_zero, List.take_succ_cons, List.take_zero, List.set_cons_zero, List.set_cons_succ, apO_some, flg_bool, flg_int, swp_seq, swp_reg, swp_ret, swp_cond, seqK_n, seqK_r, condK_t, evK_some, appK_eq, appC_eq, grd_t, srun_nil, srun_cons, stepK_grd, sk_mv, sk_give, sk_pick, sk_un, sk_load, sk_store, get_mk, raw_slot, raw_lit, put_some, put_none, wb_nil, ev_mv, ev_give, ev_pick, ev_not, ro_int, ro_bool, ro_agg, ro1_int, List.map_cons, List.map_nil, List.getD_cons_zero, List.getD_cons_succ, List.set_cons_zero, List.set_cons_succ, List.getElem?_cons_zero, List.length_cons, List.length_nil, Nat.reduceAdd, Bool.false_eq_true, ↓reduceIte, Nat.zero_add, reduceCtorEq, Bool.not_false, Nat.le_refl]
    refine fn_acc (res := (10, 11)) (c := c) (e := 4) rfl ho rfl rfl rfl ea.symm ?_
    unfold accC
    rw [if_neg (by rw [ea]; decide)]
  rw [h1]
  have hr := right_head h1
  rcases bf (m.au == au) with h2 | h2
  · skip
    have ea : accE c au m own = 4 := by simp [accE, h1, h2]
    simp (maxSteps := 2000000) (disch := first | omega | (simp only [List.length_append, List.length_cons, List.length_nil, List.length_map] <;> omega)) only [sZ, h2, nbI, getA0, getA, ev_ldA, List.drop_zero, List.take_succ_cons, List.take_zero, Nat.add_zero, List.set_cons_zero, List.set_cons_succ, apO_some, flg_bool, flg_int, exc_int, swp_seq, swp_reg, swp_ret, swp_cond, seqK_n, seqK_r, condK_t, evK_some, appK_eq, appC_eq, grd_t, srun_nil, srun_cons, stepK_grd, sk_mv, sk_take, sk_give, sk_pick, sk_bin, sk_un, sk_fld, sk_load, sk_store, get_mk, raw_slot, raw_lit, put_some, put_none, wb_nil, ev_mv, ev_take, ev_give, ev_pick, ev_not, ev_fld, bin_neq, ev_ldP, ldP_some, ro_int, ro_bool, ro_agg, ro1_int, got_int, List.map_cons, List.map_nil, List.getD_cons_zero, List.getD_cons_succ, List.set_cons_zero, List.set_cons_succ, List.getElem?_cons_zero, List.getElem?_cons_succ, List.length_cons, List.length_nil, Nat.reduceAdd, Bool.false_eq_true, Option.map_some, ↓reduceIte, Nat.zero_add, Bool.not_true, Bool.not_false, Nat.le_refl]
    refine fn_acc (res := (10, 11)) (c := c) (e := 4) rfl ho rfl rfl rfl ea.symm ?_
    unfold accC
    rw [if_neg (by rw [ea]; decide)]
  rcases bt (decide (m.ve ≤ c.ve)) with h3 | h3
  · have e3 : decide (c.ve < m.ve) = false := by simp at h3 ⊢; omega
    have ea : accE c au m own = 9 := by simp [accE, h1, h2, e3]
    simp (maxSteps := 2000000) (disch := first | omega | (simp only [List.length_append, List.length_cons, List.length_nil, List.length_map] <;> omega)) only [sZ, h2, h3, nbI, getA0, getA, ev_ldA, List.drop_zero, List.take_succ_cons, List.take_zero, Nat.add_zero, List.set_cons_zero, List.set_cons_succ, apO_some, flg_bool, flg_int, exc_int, swp_seq, swp_reg, swp_skip, swp_ret, swp_cond, seqK_n, seqK_r, condK_t, condK_f, evK_some, appK_eq, appC_eq, grd_t, srun_nil, srun_cons, stepK_grd, sk_mv, sk_take, sk_give, sk_pick, sk_bin, sk_un, sk_fld, sk_load, sk_store, get_mk, raw_slot, raw_lit, put_some, put_none, wb_nil, ev_mv, ev_take, ev_give, ev_pick, ev_not, ev_fld, bin_neq, bin_leq, ev_ldP, ldP_some, ro_int, ro_bool, ro_agg, ro1_int, got_int, List.map_cons, List.map_nil, List.getD_cons_zero, List.getD_cons_succ, List.set_cons_zero, List.set_cons_succ, List.getElem?_cons_zero, List.getElem?_cons_succ, List.length_cons, List.length_nil, Nat.reduceAdd, Bool.false_eq_true, Option.map_some, ↓reduceIte, Nat.zero_add, Bool.not_true, Nat.le_refl]
    refine fn_acc (res := (10, 11)) (c := c) (e := 9) rfl ho rfl rfl rfl ea.symm ?_
    unfold accC
    rw [if_neg (by rw [ea]; decide)]
  have e3 : decide (c.ve < m.ve) = true := by simp at h3 ⊢; omega
  rcases bt (decide (c.ve < m.ve - 1)) with h4 | h4
  · have e4 : decide (m.ve - 1 ≤ c.ve) = false := by simp at h4 ⊢; omega
    have ea : accE c au m own = 10 := by simp [accE, h1, h2, e3, e4]
    simp (maxSteps := 2000000) (disch := first | omega | (simp only [List.length_append, List.length_cons, List.length_nil, List.length_map] <;> omega)) only [sZ, h2, h3, h4, nbI, getA0, getA, ev_ldA, List.drop_zero, List.take_succ_cons, List.take_zero, Nat.add_zero, List.set_cons_zero, List.set_cons_succ, apO_some, flg_bool, flg_int, exc_int, swp_seq, swp_reg, swp_skip, swp_ret, swp_cond, seqK_n, seqK_r, condK_t, condK_f, evK_some, appK_eq, appC_eq, grd_t, srun_nil, srun_cons, stepK_grd, sk_mv, sk_take, sk_give, sk_pick, sk_bin, sk_un, sk_fld, sk_load, sk_store, get_mk, raw_slot, raw_lit, put_some, put_none, wb_nil, ev_mv, ev_take, ev_give, ev_pick, ev_not, ev_fld, bin_sub, bin_neq, bin_leq, bin_gtr, ev_ldP, ldP_some, ro_int, ro_bool, ro_agg, ro1_int, got_int, List.map_cons, List.map_nil, List.getD_cons_zero, List.getD_cons_succ, List.set_cons_zero, List.set_cons_succ, List.getElem?_cons_zero, List.getElem?_cons_succ, List.length_cons, List.length_nil, Nat.reduceAdd, Bool.false_eq_true, Option.map_some, ↓reduceIte, Nat.zero_add, Bool.not_true, gt_iff_lt, wrap_i64, Nat.le_refl]
    refine fn_acc (res := (10, 11)) (c := c) (e := 10) rfl ho rfl rfl rfl ea.symm ?_
    unfold accC
    rw [if_neg (by rw [ea]; decide)]
  have e4 : decide (m.ve - 1 ≤ c.ve) = true := by simp at h4 ⊢; omega
  rcases bf (m.pr == c.he) with h5 | h5
  · skip
    have ea : accE c au m own = 11 := by simp [accE, h1, h2, e3, e4, h5]
    simp (maxSteps := 2000000) (disch := first | omega | (simp only [List.length_append, List.length_cons, List.length_nil, List.length_map] <;> omega)) only [sZ, h2, h3, h4, h5, nbI, getA0, getA, ev_ldA, List.drop_zero, List.take_succ_cons, List.take_zero, Nat.add_zero, List.set_cons_zero, List.set_cons_succ, apO_some, flg_bool, flg_int, exc_int, swp_seq, swp_reg, swp_skip, swp_ret, swp_cond, seqK_n, seqK_r, condK_t, condK_f, evK_some, appK_eq, appC_eq, grd_t, srun_nil, srun_cons, stepK_grd, sk_mv, sk_take, sk_give, sk_pick, sk_bin, sk_un, sk_fld, sk_load, sk_store, get_mk, raw_slot, raw_lit, put_some, put_none, wb_nil, ev_mv, ev_take, ev_give, ev_pick, ev_not, ev_fld, bin_sub, bin_neq, bin_leq, bin_gtr, ev_ldP, ldP_some, ro_int, ro_bool, ro_agg, ro1_int, got_int, List.map_cons, List.map_nil, List.getD_cons_zero, List.getD_cons_succ, List.set_cons_zero, List.set_cons_succ, List.getElem?_cons_zero, List.getElem?_cons_succ, List.length_cons, List.length_nil, Nat.reduceAdd, Bool.false_eq_true, Option.map_some, ↓reduceIte, Nat.zero_add, Bool.not_true, Bool.not_false, gt_iff_lt, wrap_i64, Nat.le_refl]
    refine fn_acc (res := (10, 11)) (c := c) (e := 11) rfl ho rfl rfl rfl ea.symm ?_
    unfold accC
    rw [if_neg (by rw [ea]; decide)]
  rcases bf (m.ep == c.ep) with h6 | h6
  · skip
    have ea : accE c au m own = 12 := by simp [accE, h1, h2, e3, e4, h5, h6]
    simp (maxSteps := 2000000) (disch := first | omega | (simp only [List.length_append, List.length_cons, List.length_nil, List.length_map] <;> omega)) only [sZ, h2, h3, h4, h5, h6, nbI, getA0, getA, ev_ldA, List.drop_zero, List.take_succ_cons, List.take_zero, Nat.add_zero, List.set_cons_zero, List.set_cons_succ, apO_some, flg_bool, flg_int, exc_int, swp_seq, swp_reg, swp_skip, swp_ret, swp_cond, seqK_n, seqK_r, condK_t, condK_f, evK_some, appK_eq, appC_eq, grd_t, srun_nil, srun_cons, stepK_grd, sk_mv, sk_take, sk_give, sk_pick, sk_bin, sk_un, sk_fld, sk_load, sk_store, get_mk, raw_slot, raw_lit, put_some, put_none, wb_nil, ev_mv, ev_take, ev_give, ev_pick, ev_not, ev_fld, bin_sub, bin_neq, bin_leq, bin_gtr, ev_ldP, ldP_some, ro_int, ro_bool, ro_agg, ro1_int, got_int, List.map_cons, List.map_nil, List.getD_cons_zero, List.getD_cons_succ, List.set_cons_zero, List.set_cons_succ, List.getElem?_cons_zero, List.getElem?_cons_succ, List.length_cons, List.length_nil, Nat.reduceAdd, Bool.false_eq_true, Option.map_some, ↓reduceIte, Nat.zero_add, Bool.not_true, Bool.not_false, gt_iff_lt, wrap_i64, Nat.le_refl]
    refine fn_acc (res := (10, 11)) (c := c) (e := 12) rfl ho rfl rfl rfl ea.symm ?_
    unfold accC
    rw [if_neg (by rw [ea]; decide)]
  rcases bt (decide (m.se < c.ak)) with h7 | h7
  · have e7 : decide (c.ak ≤ m.se) = false := by simp at h7 ⊢; omega
    have ea : accE c au m own = 11 := by simp [accE, h1, h2, e3, e4, h5, h6, e7]
    simp (maxSteps := 2000000) (disch := first | omega | (simp only [List.length_append, List.length_cons, List.length_nil, List.length_map] <;> omega)) only [h2, h3, h4, h5, h6, h7, nbI, getA0, getA, Nat.add_zero, List.set_cons_zero, List.set_cons_succ, flg_bool, exc_int, swp_seq, swp_reg, swp_skip, swp_cond, seqK_n, condK_f, evK_some, appK_eq, appC_eq, grd_t, srun_nil, srun_cons, stepK_grd, sk_mv, sk_take, sk_give, sk_pick, sk_bin, sk_un, sk_fld, sk_load, get_mk, raw_slot, raw_lit, put_some, wb_nil, ev_mv, ev_take, ev_give, ev_pick, ev_not, ev_fld, bin_sub, bin_neq, bin_lss, bin_leq, bin_gtr, ev_ldP, ldP_some, ro_int, ro_bool, got_int, List.map_cons, List.map_nil, List.getD_cons_zero, List.getD_cons_succ, List.set_cons_zero, List.set_cons_succ, List.getElem?_cons_zero, List.getElem?_cons_succ, Bool.false_eq_true, Option.map_some, ↓reduceIte, Nat.zero_add, reduceCtorEq, Bool.not_true, gt_iff_lt, wrap_i64]
    apply swp_to
    · repeat' first | exact swp_ttI | refine swp_bothI ?_ ?_ | exact ⟨rfl, rfl⟩ | exact rfl | simp (maxSteps := 2000000) (disch := first | omega | (simp only [List.length_append, List.length_cons, List.length_nil, List.length_map] <;> omega)) only [List.set_cons_zero, List.set_cons_succ, swp_reg, evK_some, appK_eq, grd_t, srun_nil, srun_cons, stepK_grd, sk_pick, get_mk, raw_slot, raw_lit, put_some, wb_nil, ev_pick, ro_bool, List.map_cons, List.map_nil, List.getD_cons_zero, List.getD_cons_succ, List.set_cons_zero, List.set_cons_succ, true_and, ↓reduceIte, reduceCtorEq]
    simp (maxSteps := 2000000) (disch := first | omega | (simp only [List.length_append, List.length_cons, List.length_nil, List.length_map] <;> omega)) only [sZ, getA0, ev_ldA, List.drop_zero, List.take_succ_cons, List.take_zero, List.set_cons_zero, List.set_cons_succ, apO_some, flg_int, swp_seq, swp_reg, swp_ret, swp_cond, seqK_n, seqK_r, condK_t, evK_some, appK_eq, srun_nil, srun_cons, sk_give, sk_load, sk_store, get_mk, raw_slot, raw_lit, put_some, put_none, wb_nil, ev_give, ro_int, ro_agg, ro1_int, List.map_cons, List.map_nil, List.getD_cons_zero, List.getD_cons_succ, List.set_cons_zero, List.set_cons_succ, List.getElem?_cons_zero, List.length_cons, List.length_nil, Nat.reduceAdd, Bool.false_eq_true, ↓reduceIte, Nat.zero_add, Nat.le_refl]
    refine fn_acc (res := (10, 11)) (c := c) (e := 11) rfl ho rfl rfl rfl ea.symm ?_
    unfold accC
    rw [if_neg (by rw [ea]; decide)]
  have e7 : decide (c.ak ≤ m.se) = true := by simp at h7 ⊢; omega
  rcases bf (m.sh == digF own m.se) with h8 | h8
  · have ea : accE c au m own = 11 := by simp [accE, h1, h2, e3, e4, h5, h6, e7, h8]
    simp (maxSteps := 2000000) (disch := first | omega | (simp only [List.length_append, List.length_cons, List.length_nil, List.length_map] <;> omega)) only [h2, h3, h4, h5, h6, h7, u1, nbI, getA0, getA, Nat.add_zero, List.set_cons_zero, List.set_cons_succ, flg_bool, exc_int, swp_seq, swp_reg, swp_skip, swp_cond, seqK_n, condK_f, evK_some, appK_eq, appC_eq, grd_t, srun_nil, srun_cons, stepK_grd, sk_mv, sk_take, sk_give, sk_pick, sk_bin, sk_un, sk_fld, sk_load, get_mk, raw_slot, raw_lit, put_some, wb_nil, ev_mv, ev_take, ev_give, ev_pick, ev_not, ev_fld, bin_sub, bin_neq, bin_lss, bin_leq, bin_gtr, ev_ldP, ldP_some, ro_int, ro_bool, got_int, List.map_cons, List.map_nil, List.getD_cons_zero, List.getD_cons_succ, List.set_cons_zero, List.set_cons_succ, List.getElem?_cons_zero, List.getElem?_cons_succ, Bool.false_eq_true, Option.map_some, ↓reduceIte, Nat.zero_add, Bool.not_true, gt_iff_lt, wrap_i64]
    apply swp_to
    · repeat' first | exact swp_ttI | refine swp_bothI ?_ ?_ | refine callK_intro ((.inl (.inl (.inl (.inl (.inl (.inl (.inl (.inl (.inl (r23 (vk _) hl))))))))))) ?_ | exact ⟨rfl, rfl⟩ | exact rfl | simp (maxSteps := 2000000) (disch := first | omega | (simp only [List.length_append, List.length_cons, List.length_nil, List.length_map] <;> omega)) only [h8, u2, u3, nbI, getA, List.set_cons_zero, List.set_cons_succ, exc_int, swp_reg, evK_some, appK_eq, appC_eq, grd_t, srun_nil, srun_cons, stepK_call, stepK_grd, sk_pick, sk_bin, sk_load, get_mk, raw_slot, raw_lit, put_some, wb_nil, ev_pick, bin_neq, ev_ldP, ldP_some, ro_int, ro_bool, got_int, pubs, pubsFrom, List.map_cons, List.map_nil, List.getD_cons_zero, List.getD_cons_succ, List.set_cons_zero, List.set_cons_succ, List.getElem?_cons_zero, List.getElem?_cons_succ, true_and, Bool.false_eq_true, Option.map_some, ↓reduceIte, Bool.not_false]
    simp (maxSteps := 2000000) (disch := first | omega | (simp only [List.length_append, List.length_cons, List.length_nil, List.length_map] <;> omega)) only [sZ, getA0, ev_ldA, List.drop_zero, List.take_succ_cons, List.take_zero, List.set_cons_zero, List.set_cons_succ, apO_some, flg_int, swp_seq, swp_reg, swp_ret, swp_cond, seqK_n, seqK_r, condK_t, evK_some, appK_eq, srun_nil, srun_cons, sk_give, sk_load, sk_store, get_mk, raw_slot, raw_lit, put_some, put_none, wb_nil, ev_give, ro_int, ro_agg, ro1_int, List.map_cons, List.map_nil, List.getD_cons_zero, List.getD_cons_succ, List.set_cons_zero, List.set_cons_succ, List.getElem?_cons_zero, List.length_cons, List.length_nil, Nat.reduceAdd, Bool.false_eq_true, ↓reduceIte, Nat.zero_add, Nat.le_refl]
    refine fn_acc (res := (10, 11)) (c := c) (e := 11) rfl ho rfl rfl rfl ea.symm ?_
    unfold accC
    rw [if_neg (by rw [ea]; decide)]
  have ea : accE c au m own = 0 := by simp [accE, h1, h2, e3, e4, h5, h6, e7, h8]
  simp (maxSteps := 2000000) (disch := first | omega | (simp only [List.length_append, List.length_cons, List.length_nil, List.length_map] <;> omega)) only [h2, h3, h4, h5, h6, h7, u1, nbI, getA0, getA, Nat.add_zero, List.set_cons_zero, List.set_cons_succ, flg_bool, exc_int, swp_seq, swp_reg, swp_skip, swp_cond, seqK_n, condK_f, evK_some, appK_eq, appC_eq, grd_t, srun_nil, srun_cons, stepK_grd, sk_mv, sk_take, sk_give, sk_pick, sk_bin, sk_un, sk_fld, sk_load, get_mk, raw_slot, raw_lit, put_some, wb_nil, ev_mv, ev_take, ev_give, ev_pick, ev_not, ev_fld, bin_sub, bin_neq, bin_lss, bin_leq, bin_gtr, ev_ldP, ldP_some, ro_int, ro_bool, got_int, List.map_cons, List.map_nil, List.getD_cons_zero, List.getD_cons_succ, List.set_cons_zero, List.set_cons_succ, List.getElem?_cons_zero, List.getElem?_cons_succ, Bool.false_eq_true, Option.map_some, ↓reduceIte, Nat.zero_add, Bool.not_true, gt_iff_lt, wrap_i64]
  apply swp_to
  · repeat' first | exact swp_ttI | refine swp_bothI ?_ ?_ | refine callK_intro ((.inl (.inl (.inl (.inl (.inl (.inl (.inl (.inl (.inl (r23 (vk _) hl))))))))))) ?_ | exact ⟨rfl, rfl⟩ | exact rfl | simp (maxSteps := 2000000) (disch := first | omega | (simp only [List.length_append, List.length_cons, List.length_nil, List.length_map] <;> omega)) only [h8, u2, u3, nbI, getA, List.set_cons_zero, List.set_cons_succ, exc_int, swp_reg, evK_some, appK_eq, appC_eq, grd_t, srun_nil, srun_cons, stepK_call, stepK_grd, sk_pick, sk_bin, sk_load, get_mk, raw_slot, raw_lit, put_some, wb_nil, ev_pick, bin_neq, ev_ldP, ldP_some, ro_int, ro_bool, got_int, pubs, pubsFrom, List.map_cons, List.map_nil, List.getD_cons_zero, List.getD_cons_succ, List.set_cons_zero, List.set_cons_succ, List.getElem?_cons_zero, List.getElem?_cons_succ, true_and, Bool.false_eq_true, Option.map_some, ↓reduceIte, Bool.not_true]
  simp (maxSteps := 2000000) (disch := first | omega | (simp only [List.length_append, List.length_cons, List.length_nil, List.length_map] <;> omega)) only [sE, cv_int, cell_int, getA, List.set_cons_zero, List.set_cons_succ, flg_int, exc_int, swp_seq, swp_reg, swp_skip, swp_ret, swp_cond, seqK_n, condK_f, evK_some, appK_eq, srun_nil, srun_cons, sk_mv, sk_give, sk_fld, sk_load, sk_store, sk_bld, get_mk, raw_slot, raw_lit, put_some, put_none, wb_nil, ev_mv, ev_give, ev_fld, ev_bld, ev_ldP, ldP_some, ro_int, got_int, pubs, pubsFrom, List.map_cons, List.map_nil, List.getD_cons_zero, List.getD_cons_succ, List.set_cons_zero, List.set_cons_succ, List.getElem?_cons_zero, List.getElem?_cons_succ, List.length_cons, List.length_nil, Nat.reduceAdd, Nat.reduceLeDiff, and_true, Bool.false_eq_true, Option.map_some, ↓reduceIte, List.all_cons, List.all_nil, Bool.and_self, List.zip_cons_cons, List.zip_nil_right, fillV, wrCells, Nat.zero_add, Nat.le_refl]
  refine fn_acc (res := (10, 11)) (c := ⟨m.ve, head, m.ne, m.se⟩) (e := 0) rfl ho rfl rfl rfl ea.symm ?_
  unfold accC
  rw [if_pos ea]
def O48 : Orc := O47.add 12 (StC KAcc)
theorem s48 : Sound Tryd.prog O48 := s47.addS c12 (by kernel_rfl) (by
  rintro args r st ⟨c, au, m, head, v, own, hm, hf, hv, hl, ho, rfl, rfl⟩
  exact ⟨by simp [sf12], g12 c au m head v own st hm hf hv hl ho⟩)
theorem g37n (O : Orc) (st : List Ob) : swpF O sf37 [.nilS] st (fun r st' => r = .nilS ∧ st' = st) := by
  simp (maxSteps := 2000000) (disch := first | omega | (simp only [List.length_append, List.length_cons, List.length_nil, List.length_map] <;> omega)) only [sf37, List.set_cons_zero, List.set_cons_succ, flg_nilS, swp_seq, swp_reg, swp_ret, swp_cond, seqK_n, seqK_r, condK_t, evK_some, appK_eq, srun_nil, srun_cons, fin_ret, swpF_eq, sk_mv, sk_give, sk_eqN, get_mk, raw_slot, raw_lit, put_some, wb_nil, ev_mv, ev_give, ev_eqNs1, ro_nilS, List.map_cons, List.map_nil, List.getD_cons_zero, List.getD_cons_succ, List.set_cons_zero, List.set_cons_succ, List.length_cons, List.length_nil, List.replicate_succ, List.replicate_zero, List.cons_append, List.nil_append, Nat.reduceSub, true_and, Bool.false_eq_true, ↓reduceIte, Nat.zero_add]
  first | exact ⟨_, .same⟩ | exact ⟨_, .same, rfl⟩ | exact ⟨_, .same, rfl, rfl⟩
def O49 : Orc := O48.add 37 (FnC fun args r => args = [.nilS] ∧ r = .nilS)
theorem s49 : Sound Tryd.prog O49 := s48.addP c37 (by kernel_rfl) (by
  rintro args r ⟨rfl, rfl⟩
  exact ⟨by simp [sf37], fun st => g37n _ st⟩)
theorem g24n (m : Mf) (hn : m.pv = .nilS) (st : List Ob) (ho : okSt st) : swpF O49 sf24 [.agg m.cells] st (fun r st' => r = .agg m.cells ∧ st' = st) := by
  obtain ⟨au, ve, pr, ep, ne, se, sh, pv, ps⟩ := m
  obtain rfl : pv = .nilS := hn
  simp only [Mf.cells]
  simp (maxSteps := 2000000) (disch := first | omega | (simp only [List.length_append, List.length_cons, List.length_nil, List.length_map] <;> omega)) only [sf24, cv_agg, cell_int, cell_nilS, getA0, List.append_assoc, List.set_cons_zero, List.set_cons_succ, exc_nilS, exc_agg, swp_seq, swp_reg, seqK_n, evK_some, appK_eq, srun_nil, srun_cons, stepK_call, swpF_eq, sk_fld, sk_load, sk_box, sk_alloc, get_mk, raw_slot, put_some, wb_nil, ev_fld, ev_box, ev_alloc, ev_ldP, ldP_some, ro_nilS, ro1_int, ro1_nilS, got_nilS, got_agg, pubs, pubsFrom, List.map_cons, List.map_nil, List.getD_cons_zero, List.getD_cons_succ, List.set_cons_zero, List.set_cons_succ, List.getElem?_cons_zero, List.getElem?_cons_succ, List.length_cons, List.length_nil, List.replicate_succ, List.replicate_zero, List.cons_append, List.nil_append, Nat.reduceSub, Bool.false_eq_true, Option.map_some, ↓reduceIte, List.all_cons, List.all_nil, Bool.and_self, Nat.zero_add, List.length_append]
  refine callK_intro ((by repeat first | exact Or.inr ⟨rfl, rfl, rfl, rfl⟩ | refine Or.inl ?_)) ?_
  simp (maxSteps := 2000000) (disch := first | omega | (simp only [List.length_append, List.length_cons, List.length_nil, List.length_map] <;> omega)) only [getA0, setA0, List.set_cons_zero, List.set_cons_succ, sk_storeO, ev_storeO_nil, swp_seq, swp_reg, swp_block, seqK_n, evK_some, appK_eq, appC_eq, srun_nil, srun_cons, sk_mv, sk_fld, sk_load, sk_lenL, get_mk, raw_slot, raw_lit, put_some, put_none, wb_nil, ev_mv, ev_fld, ev_lenN, ev_ldP, ldP_some, stP_some, ro_int, ro_nilS, List.map_cons, List.map_nil, List.getD_cons_zero, List.getD_cons_succ, List.set_cons_zero, List.set_cons_succ, List.getElem?_cons_zero, List.getElem?_cons_succ, List.length_cons, List.length_nil, Nat.reduceAdd, Nat.reduceLT, Option.map_some, ↓reduceIte, Nat.zero_add]
  have sZ := st_aggA (st := st) (l := [.cells [.int .i64 au, .int .i64 ve, .int .i64 pr, .int .i64 ep, .int .i64 ne, .int .i64 se, .int .i64 sh, .nilS], .cells [.int .i64 0, .int .i64 0, .int .i64 0, .int .i64 0, .int .i64 0, .int .i64 0, .int .i64 0, .nilS]]) (i := 1) (n := 8) (b := true) (xs := [.int .i64 au, .int .i64 ve, .int .i64 pr, .int .i64 ep, .int .i64 ne, .int .i64 se, .int .i64 sh, .nilS]) rfl rfl rfl rfl rfl
  refine swp_lp (fun S => S = ⟨[.undef, .ptr st.length 0, .ptr (st.length + 1) 0, .undef, .undef, .undef, .undef, .undef, .undef, .undef, .nilS, .int .i64 0, .int .i64 0] ++ List.replicate 14 .undef, st ++ [.cells [.int .i64 au, .int .i64 ve, .int .i64 pr, .int .i64 ep, .int .i64 ne, .int .i64 se, .int .i64 sh, .nilS], .cells [.int .i64 0, .int .i64 0, .int .i64 0, .int .i64 0, .int .i64 0, .int .i64 0, .int .i64 0, .nilS]]⟩) (fun _ => 0) ⟨[.undef, .ptr st.length 0, .ptr (st.length + 1) 0, .undef, .undef, .undef, .undef, .undef, .undef, .undef, .nilS, .int .i64 0, .int .i64 0] ++ List.replicate 14 .undef, st ++ [.cells [.int .i64 au, .int .i64 ve, .int .i64 pr, .int .i64 ep, .int .i64 ne, .int .i64 se, .int .i64 sh, .nilS], .cells [.int .i64 0, .int .i64 0, .int .i64 0, .int .i64 0, .int .i64 0, .int .i64 0, .int .i64 0, .nilS]]⟩ ?_ rfl ?_
  · refine Forget.of ?_
    repeat first | exact fg_e | refine fg_d ?_ | refine fg_k rfl ?_
  rintro S rfl
  simp (maxSteps := 2000000) (disch := first | omega | (simp only [List.length_append, List.length_cons, List.length_nil, List.length_map] <;> omega)) only [sZ, getA0, ev_ldA, List.drop_zero, List.take_succ_cons, List.take_zero, List.set_cons_zero, List.set_cons_succ, lpK_e, apO_some, swp_seq, swp_reg, swp_ret, swp_exit, swp_cond, seqK_n, seqK_e, blkK_e, condK_f, evK_some, appK_eq, srun_nil, srun_cons, sk_bin, sk_load, sk_store, get_mk, raw_slot, put_some, put_none, wb_nil, bin_lss, ro_agg, ro1_int, ro1_nilS, List.map_cons, List.map_nil, List.getD_cons_zero, List.getD_cons_succ, List.set_cons_zero, List.set_cons_succ, List.getElem?_cons_zero, List.length_cons, List.length_nil, List.replicate_succ, List.replicate_zero, List.cons_append, List.nil_append, Nat.reduceAdd, ↓reduceIte, decide_false, Nat.zero_add, Int.reduceLT, List.length_append, Nat.le_refl]
  refine ⟨_, _, retOf_cell (n := 8) (id := st.length + 1) (l := [.int .i64 au, .int .i64 ve, .int .i64 pr, .int .i64 ep, .int .i64 ne, .int .i64 se, .int .i64 sh, .nilS]) rfl (by rw [getA]; rfl) rfl rfl, trim1 ho rfl, rfl, rfl⟩
def O50 : Orc := O49.add 24 (StC fun st args r => ∃ m : Mf, m.pv = .nilS ∧ okSt st ∧ args = [.agg m.cells] ∧ r = .agg m.cells)
theorem s50 : Sound Tryd.prog O50 := s49.addS c24 (by kernel_rfl) (by
  rintro args r st ⟨m, hn, ho, rfl, rfl⟩
  exact ⟨by simp [sf24], g24n m hn st ho⟩)
def Cu.fit (c : Cu) : Prop := (-9223372036854775808 ≤ c.ve ∧ c.ve ≤ 9223372036854775807) ∧ -9223372036854775808 ≤ c.ep ∧ c.ep ≤ 9223372036854775807
def nxtR (c : Cu) (au : Int) (turn : Bool) (pv ph : Int) : Mf := if nxtF c au turn pv ph .nilS [] = 0 then nxtM c au turn pv ph .nilS [] else Mf.none
theorem fn_mf {st : List Ob} {m : Mf} {e : Int} {s : S} {res : Nat × Nat} {x : List Ob} (h0 : s.st = st ++ x) (hn : m.pv = .nilS) (ho : okSt st) (h : s.get res.1 = .ptr (st.length + 2) 0) (h1 : x[2]? = some (.cells m.cells)) (h2 : s.get res.2 = .int .i64 e) {e' : Int} {m' : Mf} (he : e = e') (hc : m = m') :
    ∃ r st', retOf [.cell res.1 8 true, .tmp res.2] s = some r ∧ Trim st.length s.st st' [r] ∧ (r = .tup [.agg m'.cells, .int .i64 e'] ∧ st' = st) := by
  subst he hc
  have er : ro (.agg m.cells) = .agg m.cells := by simp only [Mf.cells, hn]; rfl
  refine ⟨.tup [.agg m.cells, .int .i64 e], st, ?_, ?_, rfl, rfl⟩
  · rw [retOf_cell2 (n := 8) (t := res.2) (id := st.length + 2) (l := m.cells) (r := .agg m.cells) h (by rw [h0, getA]; exact h1) rfl er, h2]
  · rw [h0]; exact trim1 ho (by simp only [Mf.cells, hn]; rfl)
theorem nil_ok {m : Mf} (hn : m.pv = .nilS) (hp : m.ps = []) (st : List Ob) : m.ok st := by
  unfold Mf.ok
  rw [hn, hp]
  exact ⟨RowAt.nil, by simp, by simp⟩
def pc0 (a b c d : Int) : List SV := [.int .i64 a, .int .i64 b, .int .i64 c, .int .i64 d]
set_option maxHeartbeats 16000000 in
theorem g16n (c : Cu) (hcf : c.fit) (au : Int) (turn : Bool) (pv ph x y : Int) (st : List Ob) (ho : okSt st) :
    swpF O50 sf16 [.agg c.cells, .int .i64 au, .bool turn, .agg (pc0 pv ph x y), .nilS] st (fun r st' => r = .tup [.agg (nxtR c au turn pv ph).cells, .int .i64 (nxtF c au turn pv ph .nilS [])] ∧ st' = st) := by
  have sn := st_aggA (st := st) (l := [.cells [.int .i64 c.ve, .int .i64 c.he, .int .i64 c.ep, .int .i64 c.ak], .cells [.int .i64 pv, .int .i64 ph, .int .i64 x, .int .i64 y], .cells [.int .i64 0, .int .i64 0, .int .i64 0, .int .i64 0, .int .i64 0, .int .i64 0, .int .i64 0, .nilS]]) (i := 2) (n := 8) (b := true) (xs := [.int .i64 0, .int .i64 0, .int .i64 0, .int .i64 0, .int .i64 0, .int .i64 0, .int .i64 0, .nilS]) rfl rfl rfl rfl rfl
  have sn3 := fun w => st_aggA (st := st) (l := [.cells [.int .i64 c.ve, .int .i64 c.he, .int .i64 c.ep, .int .i64 c.ak], .cells [.int .i64 pv, .int .i64 ph, .int .i64 x, .int .i64 y], .cells [.int .i64 0, .int .i64 0, .int .i64 0, .int .i64 0, .int .i64 0, .int .i64 0, .int .i64 0, .nilS], w]) (i := 2) (n := 8) (b := true) (xs := [.int .i64 0, .int .i64 0, .int .i64 0, .int .i64 0, .int .i64 0, .int .i64 0, .int .i64 0, .nilS]) rfl rfl rfl rfl rfl
  have s2 := fun w a b => st_aggA (st := st) (l := [.cells [.int .i64 c.ve, .int .i64 c.he, .int .i64 c.ep, .int .i64 c.ak], .cells [.int .i64 pv, .int .i64 ph, .int .i64 x, .int .i64 y], .cells [.int .i64 0, .int .i64 0, .int .i64 0, .int .i64 0, .int .i64 0, .int .i64 0, .int .i64 0, .nilS], w]) (i := 2) (n := 8) (b := true) (xs := [.int .i64 au, .int .i64 a, .int .i64 c.he, .int .i64 c.ep, .int .i64 b, .int .i64 pv, .int .i64 ph, .nilS]) rfl rfl rfl rfl rfl
  have s3 := fun a b => st_aggA (st := st) (l := [.cells [.int .i64 c.ve, .int .i64 c.he, .int .i64 c.ep, .int .i64 c.ak], .cells [.int .i64 pv, .int .i64 ph, .int .i64 x, .int .i64 y], .cells [.int .i64 0, .int .i64 0, .int .i64 0, .int .i64 0, .int .i64 0, .int .i64 0, .int .i64 0, .nilS], .cells [.int .i64 0, .int .i64 0, .int .i64 0, .int .i64 0, .int .i64 0, .int .i64 0, .int .i64 0, .nilS]]) (i := 3) (n := 8) (b := true) (xs := [.int .i64 au, .int .i64 a, .int .i64 c.he, .int .i64 c.ep, .int .i64 b, .int .i64 pv, .int .i64 ph, .nilS]) rfl rfl rfl rfl rfl
  have o3 : okSt (st ++ [.cells [.int .i64 c.ve, .int .i64 c.he, .int .i64 c.ep, .int .i64 c.ak], .cells [.int .i64 pv, .int .i64 ph, .int .i64 x, .int .i64 y], .cells [.int .i64 0, .int .i64 0, .int .i64 0, .int .i64 0, .int .i64 0, .int .i64 0, .int .i64 0, .nilS]]) := okSt_appL ho rfl
  have o4 : ∀ a b : Int, okSt (st ++ [.cells [.int .i64 c.ve, .int .i64 c.he, .int .i64 c.ep, .int .i64 c.ak], .cells [.int .i64 pv, .int .i64 ph, .int .i64 x, .int .i64 y], .cells [.int .i64 0, .int .i64 0, .int .i64 0, .int .i64 0, .int .i64 0, .int .i64 0, .int .i64 0, .nilS], .cells [.int .i64 au, .int .i64 a, .int .i64 c.he, .int .i64 c.ep, .int .i64 b, .int .i64 pv, .int .i64 ph, .nilS]]) := fun a b => okSt_appL ho rfl
  obtain ⟨⟨f1, f2⟩, f3, f4⟩ := hcf
  simp only [Cu.cells, pc0]
  cases turn with
  | false =>
    rcases bt (decide (200 ≤ c.ve)) with h1 | h1
    · have e : nxtF c au false pv ph .nilS [] = 2 := by simp [nxtF, h1]
      have e2 : nxtR c au false pv ph = Mf.none := by simp [nxtR, e]
      simp (maxSteps := 2000000) (disch := first | omega | (simp only [List.length_append, List.length_cons, List.length_nil, List.length_map] <;> omega)) only [sf16, sn, h1, cv_agg, cell_int, getA0, List.append_assoc, Nat.add_zero, List.set_cons_zero, List.set_cons_succ, flg_int, exc_agg, swp_seq, swp_reg, swp_skip, swp_ret, swp_cond, seqK_n, seqK_r, condK_t, condK_f, evK_some, appK_eq, grd_t, srun_nil, srun_cons, stepK_grd, swpF_eq, sk_mv, sk_give, sk_pick, sk_bin, sk_fld, sk_load, sk_store, sk_bld, sk_box, sk_alloc, get_mk, raw_slot, raw_lit, put_some, put_none, wb_nil, ev_mv, ev_give, ev_pick, ev_fld, bin_geq, ev_bld, ev_box, ev_alloc, ev_ldP, ldP_some, ro_int, ro_bool, ro1_int, got_agg, pubs, pubsFrom, List.map_cons, List.map_nil, List.getD_cons_zero, List.getD_cons_succ, List.set_cons_zero, List.set_cons_succ, List.getElem?_cons_zero, List.getElem?_cons_succ, List.length_cons, List.length_nil, List.replicate_succ, List.replicate_zero, List.cons_append, List.nil_append, Nat.reduceAdd, Nat.reduceSub, Bool.false_eq_true, Option.map_some, ↓reduceIte, List.all_cons, List.all_nil, Bool.and_self, List.zip_nil_right, fillV, Nat.zero_add, reduceCtorEq, ge_iff_le, List.length_append]
      exact fn_mf (res := (10, 11)) (m := Mf.none) (e := 2) rfl rfl ho rfl rfl rfl e.symm e2.symm
    rcases bt (decide (100 < c.ep)) with h2 | h2
    · have e : nxtF c au false pv ph .nilS [] = 2 := by simp [nxtF, nxtE, h2]
      have e2 : nxtR c au false pv ph = Mf.none := by simp [nxtR, e]
      simp (maxSteps := 2000000) (disch := first | omega | (simp only [List.length_append, List.length_cons, List.length_nil, List.length_map] <;> omega)) only [sf16, sn, h1, h2, cv_agg, cell_int, getA0, List.append_assoc, Nat.add_zero, List.set_cons_zero, List.set_cons_succ, flg_int, exc_int, exc_agg, swp_seq, swp_reg, swp_skip, swp_ret, swp_cond, seqK_n, seqK_r, condK_t, condK_f, evK_some, appK_eq, grd_t, srun_nil, srun_cons, stepK_grd, swpF_eq, sk_mv, sk_take, sk_give, sk_pick, sk_bin, sk_fld, sk_load, sk_store, sk_bld, sk_box, sk_alloc, get_mk, raw_slot, raw_lit, put_some, put_none, wb_nil, ev_mv, ev_take, ev_give, ev_pick, ev_fld, bin_gtr, bin_geq, ev_bld, ev_box, ev_alloc, ev_ldP, ldP_some, ro_int, ro_bool, ro1_int, got_int, got_agg, pubs, pubsFrom, List.map_cons, List.map_nil, List.getD_cons_zero, List.getD_cons_succ, List.set_cons_zero, List.set_cons_succ, List.getElem?_cons_zero, List.getElem?_cons_succ, List.length_cons, List.length_nil, List.replicate_succ, List.replicate_zero, List.cons_append, List.nil_append, Nat.reduceAdd, Nat.reduceSub, Bool.false_eq_true, Option.map_some, ↓reduceIte, List.all_cons, List.all_nil, Bool.and_self, List.zip_nil_right, fillV, Nat.zero_add, ge_iff_le, gt_iff_lt, List.length_append]
      exact fn_mf (res := (10, 11)) (m := Mf.none) (e := 2) rfl rfl ho rfl rfl rfl e.symm e2.symm
    have g1 : ¬ 200 ≤ c.ve := by simpa using h1
    simp (maxSteps := 2000000) (disch := first | omega | (simp only [List.length_append, List.length_cons, List.length_nil, List.length_map] <;> omega)) only [sf16, h1, h2, cv_agg, cv_int, cv_nilS, cell_int, cell_nilS, getA0, getA, List.append_assoc, Nat.add_zero, List.set_cons_zero, List.set_cons_succ, flg_int, exc_int, exc_nilS, exc_agg, swp_seq, swp_reg, swp_skip, swp_cond, seqK_n, condK_f, evK_some, appK_eq, grd_t, srun_nil, srun_cons, stepK_call, stepK_grd, swpF_eq, sk_mv, sk_take, sk_give, sk_pick, sk_bin, sk_fld, sk_load, sk_bld, sk_box, sk_alloc, get_mk, raw_slot, raw_lit, put_some, wb_nil, ev_mv, ev_take, ev_give, ev_pick, ev_fld, bin_add, bin_gtr, bin_geq, ev_bld, ev_box, ev_alloc, ev_ldP, ldP_some, ro_int, ro_bool, ro_nilS, ro1_int, ro1_nilS, got_int, got_nilS, got_agg, pubs, pubsFrom, List.map_cons, List.map_nil, List.getD_cons_zero, List.getD_cons_succ, List.set_cons_zero, List.set_cons_succ, List.getElem?_cons_zero, List.getElem?_cons_succ, List.length_cons, List.length_nil, List.replicate_succ, List.replicate_zero, List.cons_append, List.nil_append, Nat.reduceAdd, Nat.reduceSub, Nat.reduceLeDiff, and_true, Bool.false_eq_true, Option.map_some, ↓reduceIte, List.all_cons, List.all_nil, Bool.and_self, List.zip_cons_cons, List.zip_nil_right, fillV, wrCells, Nat.zero_add, ge_iff_le, gt_iff_lt, wrap_i64, List.length_append, Nat.le_refl]
    refine callK_intro ((by repeat first | exact Or.inr ⟨rfl, rfl, nxtM c au false pv ph .nilS [], rfl, o3, rfl, rfl⟩ | refine Or.inl ?_)) ?_
    simp (maxSteps := 2000000) (disch := first | omega | (simp only [List.length_append, List.length_cons, List.length_nil, List.length_map] <;> omega)) only [nxtM, nxtE, Mf.cells, s3, getA, ev_ldA, List.drop_zero, List.take_succ_cons, List.take_zero, List.append_assoc, List.set_cons_zero, List.set_cons_succ, apO_some, exc_agg, swp_seq, swp_reg, seqK_n, evK_some, appK_eq, appC_eq, srun_nil, srun_cons, stepK_call, sk_load, sk_store, sk_alloc, get_mk, raw_slot, put_some, put_none, wb_nil, ev_alloc, ro_agg, ro1_int, ro1_nilS, got_agg, pubs, pubsFrom, List.map_cons, List.map_nil, List.getD_cons_zero, List.getD_cons_succ, List.set_cons_zero, List.set_cons_succ, List.getElem?_cons_zero, List.getElem?_cons_succ, List.length_cons, List.length_nil, List.cons_append, List.nil_append, Nat.reduceAdd, Bool.false_eq_true, ↓reduceIte, Nat.zero_add, List.length_append, Nat.le_refl]
    refine callK_intro ((.inl (.inl (.inl (.inl (.inl (.inl (.inl (.inl (.inl (.inl (.inl (.inl (r19 (m := nxtM c au false pv ph .nilS []) (nil_ok rfl rfl _) (by unfold nxtM Mf.fit; simp only; omega) (o4 _ _))))))))))))))) ?_
    rcases bf (rightM (nxtM c au false pv ph .nilS [])) with h3 | h3
    · have e : nxtF c au false pv ph .nilS [] = 4 := by simp [nxtF, nxtE, h1, h2, h3]
      have e2 : nxtR c au false pv ph = Mf.none := by simp [nxtR, e]
      rw [h3]
      simp (maxSteps := 2000000) (disch := first | omega | (simp only [List.length_append, List.length_cons, List.length_nil, List.length_map] <;> omega)) only [sn3, List.set_cons_zero, List.set_cons_succ, flg_int, swp_seq, swp_reg, swp_ret, swp_cond, seqK_n, seqK_r, condK_t, evK_some, appK_eq, appC_eq, srun_nil, srun_cons, sk_give, sk_un, sk_store, sk_bld, get_mk, raw_slot, raw_lit, put_some, put_none, wb_nil, ev_give, ev_not, ev_bld, ro_int, pubs, pubsFrom, List.map_cons, List.map_nil, List.getD_cons_zero, List.getD_cons_succ, List.set_cons_zero, List.set_cons_succ, List.length_nil, Bool.false_eq_true, Option.map_some, ↓reduceIte, List.zip_nil_right, fillV, Bool.not_false]
      exact fn_mf (res := (10, 11)) (m := Mf.none) (e := 4) rfl rfl ho rfl rfl rfl e.symm e2.symm
    · have e : nxtF c au false pv ph .nilS [] = 0 := by simp [nxtF, nxtE, h1, h2, h3]
      have e2 : nxtR c au false pv ph = nxtM c au false pv ph .nilS [] := by simp [nxtR, e]
      rw [h3]
      simp (maxSteps := 2000000) (disch := first | omega | (simp only [List.length_append, List.length_cons, List.length_nil, List.length_map] <;> omega)) only [s2, getA, ev_ldA, List.drop_zero, List.take_succ_cons, List.take_zero, List.set_cons_zero, List.set_cons_succ, apO_some, flg_int, swp_seq, swp_reg, swp_skip, swp_ret, swp_cond, seqK_n, condK_f, evK_some, appK_eq, appC_eq, srun_nil, srun_cons, sk_give, sk_un, sk_load, sk_store, get_mk, raw_slot, raw_lit, put_some, put_none, wb_nil, ev_give, ev_not, ro_int, ro_agg, ro1_int, ro1_nilS, List.map_cons, List.map_nil, List.getD_cons_zero, List.getD_cons_succ, List.set_cons_zero, List.set_cons_succ, List.getElem?_cons_zero, List.getElem?_cons_succ, List.length_cons, List.length_nil, Nat.reduceAdd, Bool.false_eq_true, ↓reduceIte, Nat.zero_add, Bool.not_true, Nat.le_refl]
      exact fn_mf (res := (10, 11)) (m := nxtM c au false pv ph .nilS []) (e := 0) rfl rfl ho rfl rfl rfl e.symm e2.symm
  | true =>
    rcases bt (decide (200 ≤ c.ve)) with h1 | h1
    · have e : nxtF c au true pv ph .nilS [] = 2 := by simp [nxtF, h1]
      have e2 : nxtR c au true pv ph = Mf.none := by simp [nxtR, e]
      rcases bf (decide (c.ep < 9223372036854775807)) with h0 | h0
      · simp (maxSteps := 2000000) (disch := first | omega | (simp only [List.length_append, List.length_cons, List.length_nil, List.length_map] <;> omega)) only [sf16, sn, h0, h1, cv_agg, cell_int, getA0, List.append_assoc, Nat.add_zero, List.set_cons_zero, List.set_cons_succ, flg_int, exc_int, exc_agg, swp_seq, swp_reg, swp_skip, swp_ret, swp_cond, seqK_n, seqK_r, condK_t, condK_f, evK_some, appK_eq, grd_t, srun_nil, srun_cons, stepK_grd, swpF_eq, sk_mv, sk_take, sk_give, sk_pick, sk_bin, sk_fld, sk_load, sk_store, sk_bld, sk_box, sk_alloc, get_mk, raw_slot, raw_lit, put_some, put_none, wb_nil, ev_mv, ev_take, ev_give, ev_pick, ev_fld, bin_lss, bin_geq, ev_bld, ev_box, ev_alloc, ev_ldP, ldP_some, ro_int, ro_bool, ro1_int, got_int, got_agg, pubs, pubsFrom, List.map_cons, List.map_nil, List.getD_cons_zero, List.getD_cons_succ, List.set_cons_zero, List.set_cons_succ, List.getElem?_cons_zero, List.getElem?_cons_succ, List.length_cons, List.length_nil, List.replicate_succ, List.replicate_zero, List.cons_append, List.nil_append, Nat.reduceAdd, Nat.reduceSub, Bool.false_eq_true, Option.map_some, ↓reduceIte, List.all_cons, List.all_nil, Bool.and_self, List.zip_nil_right, fillV, Nat.zero_add, reduceCtorEq, ge_iff_le, List.length_append]
        exact fn_mf (res := (10, 11)) (m := Mf.none) (e := 2) rfl rfl ho rfl rfl rfl e.symm e2.symm
      · have h0' : c.ep < 9223372036854775807 := by simpa using h0
        simp (maxSteps := 2000000) (disch := first | omega | (simp only [List.length_append, List.length_cons, List.length_nil, List.length_map] <;> omega)) only [sf16, sn, h0, h1, cv_agg, cell_int, getA0, List.append_assoc, Nat.add_zero, List.set_cons_zero, List.set_cons_succ, flg_int, exc_int, exc_agg, swp_seq, swp_reg, swp_ret, swp_cond, seqK_n, seqK_r, condK_t, evK_some, appK_eq, grd_t, srun_nil, srun_cons, stepK_grd, swpF_eq, sk_mv, sk_take, sk_give, sk_pick, sk_bin, sk_fld, sk_load, sk_store, sk_bld, sk_box, sk_alloc, get_mk, raw_slot, raw_lit, put_some, put_none, wb_nil, ev_mv, ev_take, ev_give, ev_pick, ev_fld, bin_add, bin_lss, bin_geq, ev_bld, ev_box, ev_alloc, ev_ldP, ldP_some, ro_int, ro_bool, ro1_int, got_int, got_agg, pubs, pubsFrom, List.map_cons, List.map_nil, List.getD_cons_zero, List.getD_cons_succ, List.set_cons_zero, List.set_cons_succ, List.getElem?_cons_zero, List.getElem?_cons_succ, List.length_cons, List.length_nil, List.replicate_succ, List.replicate_zero, List.cons_append, List.nil_append, Nat.reduceAdd, Nat.reduceSub, Bool.false_eq_true, Option.map_some, ↓reduceIte, List.all_cons, List.all_nil, Bool.and_self, List.zip_nil_right, fillV, Nat.zero_add, reduceCtorEq, ge_iff_le, wrap_i64, List.length_append]
        exact fn_mf (res := (10, 11)) (m := Mf.none) (e := 2) rfl rfl ho rfl rfl rfl e.symm e2.symm
    have g1 : ¬ 200 ≤ c.ve := by simpa using h1
    rcases bf (decide (c.ep < 9223372036854775807)) with h0 | h0
    · have h2 : decide (100 < c.ep) = true := by simp at h0 ⊢; omega
      have e : nxtF c au true pv ph .nilS [] = 2 := by
        have : decide (100 < c.ep + 1) = true := by simp at h0 ⊢; omega
        simp [nxtF, nxtE, this]
      have e2 : nxtR c au true pv ph = Mf.none := by simp [nxtR, e]
      simp (maxSteps := 2000000) (disch := first | omega | (simp only [List.length_append, List.length_cons, List.length_nil, List.length_map] <;> omega)) only [sf16, sn, h0, h1, h2, cv_agg, cell_int, getA0, List.append_assoc, Nat.add_zero, List.set_cons_zero, List.set_cons_succ, flg_int, exc_int, exc_agg, swp_seq, swp_reg, swp_skip, swp_ret, swp_cond, seqK_n, seqK_r, condK_t, condK_f, evK_some, appK_eq, grd_t, srun_nil, srun_cons, stepK_grd, swpF_eq, sk_mv, sk_take, sk_give, sk_pick, sk_bin, sk_fld, sk_load, sk_store, sk_bld, sk_box, sk_alloc, get_mk, raw_slot, raw_lit, put_some, put_none, wb_nil, ev_mv, ev_take, ev_give, ev_pick, ev_fld, bin_lss, bin_gtr, bin_geq, ev_bld, ev_box, ev_alloc, ev_ldP, ldP_some, ro_int, ro_bool, ro1_int, got_int, got_agg, pubs, pubsFrom, List.map_cons, List.map_nil, List.getD_cons_zero, List.getD_cons_succ, List.set_cons_zero, List.set_cons_succ, List.getElem?_cons_zero, List.getElem?_cons_succ, List.length_cons, List.length_nil, List.replicate_succ, List.replicate_zero, List.cons_append, List.nil_append, Nat.reduceAdd, Nat.reduceSub, Bool.false_eq_true, Option.map_some, ↓reduceIte, List.all_cons, List.all_nil, Bool.and_self, List.zip_nil_right, fillV, Nat.zero_add, ge_iff_le, gt_iff_lt, List.length_append]
      exact fn_mf (res := (10, 11)) (m := Mf.none) (e := 2) rfl rfl ho rfl rfl rfl e.symm e2.symm
    have h0' : c.ep < 9223372036854775807 := by simpa using h0
    rcases bt (decide (100 < c.ep + 1)) with h2 | h2
    · have e : nxtF c au true pv ph .nilS [] = 2 := by simp [nxtF, nxtE, h2]
      have e2 : nxtR c au true pv ph = Mf.none := by simp [nxtR, e]
      simp (maxSteps := 2000000) (disch := first | omega | (simp only [List.length_append, List.length_cons, List.length_nil, List.length_map] <;> omega)) only [sf16, sn, h0, h1, h2, cv_agg, cell_int, getA0, List.append_assoc, Nat.add_zero, List.set_cons_zero, List.set_cons_succ, flg_int, exc_int, exc_agg, swp_seq, swp_reg, swp_ret, swp_cond, seqK_n, seqK_r, condK_t, evK_some, appK_eq, grd_t, srun_nil, srun_cons, stepK_grd, swpF_eq, sk_mv, sk_take, sk_give, sk_pick, sk_bin, sk_fld, sk_load, sk_store, sk_bld, sk_box, sk_alloc, get_mk, raw_slot, raw_lit, put_some, put_none, wb_nil, ev_mv, ev_take, ev_give, ev_pick, ev_fld, bin_add, bin_lss, bin_gtr, bin_geq, ev_bld, ev_box, ev_alloc, ev_ldP, ldP_some, ro_int, ro_bool, ro1_int, got_int, got_agg, pubs, pubsFrom, List.map_cons, List.map_nil, List.getD_cons_zero, List.getD_cons_succ, List.set_cons_zero, List.set_cons_succ, List.getElem?_cons_zero, List.getElem?_cons_succ, List.length_cons, List.length_nil, List.replicate_succ, List.replicate_zero, List.cons_append, List.nil_append, Nat.reduceAdd, Nat.reduceSub, Bool.false_eq_true, Option.map_some, ↓reduceIte, List.all_cons, List.all_nil, Bool.and_self, List.zip_nil_right, fillV, Nat.zero_add, ge_iff_le, gt_iff_lt, wrap_i64, List.length_append]
      exact fn_mf (res := (10, 11)) (m := Mf.none) (e := 2) rfl rfl ho rfl rfl rfl e.symm e2.symm
    simp (maxSteps := 2000000) (disch := first | omega | (simp only [List.length_append, List.length_cons, List.length_nil, List.length_map] <;> omega)) only [sf16, h0, h1, h2, cv_agg, cv_int, cv_nilS, cell_int, cell_nilS, getA0, getA, List.append_assoc, Nat.add_zero, List.set_cons_zero, List.set_cons_succ, flg_int, exc_int, exc_nilS, exc_agg, swp_seq, swp_reg, swp_skip, swp_cond, seqK_n, condK_t, condK_f, evK_some, appK_eq, grd_t, srun_nil, srun_cons, stepK_call, stepK_grd, swpF_eq, sk_mv, sk_take, sk_give, sk_pick, sk_bin, sk_fld, sk_load, sk_bld, sk_box, sk_alloc, get_mk, raw_slot, raw_lit, put_some, wb_nil, ev_mv, ev_take, ev_give, ev_pick, ev_fld, bin_add, bin_lss, bin_gtr, bin_geq, ev_bld, ev_box, ev_alloc, ev_ldP, ldP_some, ro_int, ro_bool, ro_nilS, ro1_int, ro1_nilS, got_int, got_nilS, got_agg, pubs, pubsFrom, List.map_cons, List.map_nil, List.getD_cons_zero, List.getD_cons_succ, List.set_cons_zero, List.set_cons_succ, List.getElem?_cons_zero, List.getElem?_cons_succ, List.length_cons, List.length_nil, List.replicate_succ, List.replicate_zero, List.cons_append, List.nil_append, Nat.reduceAdd, Nat.reduceSub, Nat.reduceLeDiff, and_true, Bool.false_eq_true, Option.map_some, ↓reduceIte, List.all_cons, List.all_nil, Bool.and_self, List.zip_cons_cons, List.zip_nil_right, fillV, wrCells, Nat.zero_add, ge_iff_le, gt_iff_lt, wrap_i64, List.length_append, Nat.le_refl]
    refine callK_intro ((by repeat first | exact Or.inr ⟨rfl, rfl, nxtM c au true pv ph .nilS [], rfl, o3, rfl, rfl⟩ | refine Or.inl ?_)) ?_
    simp (maxSteps := 2000000) (disch := first | omega | (simp only [List.length_append, List.length_cons, List.length_nil, List.length_map] <;> omega)) only [nxtM, nxtE, Mf.cells, s3, getA, ev_ldA, List.drop_zero, List.take_succ_cons, List.take_zero, List.append_assoc, List.set_cons_zero, List.set_cons_succ, apO_some, exc_agg, swp_seq, swp_reg, seqK_n, evK_some, appK_eq, appC_eq, srun_nil, srun_cons, stepK_call, sk_load, sk_store, sk_alloc, get_mk, raw_slot, put_some, put_none, wb_nil, ev_alloc, ro_agg, ro1_int, ro1_nilS, got_agg, pubs, pubsFrom, List.map_cons, List.map_nil, List.getD_cons_zero, List.getD_cons_succ, List.set_cons_zero, List.set_cons_succ, List.getElem?_cons_zero, List.getElem?_cons_succ, List.length_cons, List.length_nil, List.cons_append, List.nil_append, Nat.reduceAdd, Bool.false_eq_true, ↓reduceIte, Nat.zero_add, List.length_append, Nat.le_refl]
    refine callK_intro ((.inl (.inl (.inl (.inl (.inl (.inl (.inl (.inl (.inl (.inl (.inl (.inl (r19 (m := nxtM c au true pv ph .nilS []) (nil_ok rfl rfl _) (by unfold nxtM Mf.fit; simp only; omega) (o4 _ _))))))))))))))) ?_
    rcases bf (rightM (nxtM c au true pv ph .nilS [])) with h3 | h3
    · have e : nxtF c au true pv ph .nilS [] = 4 := by simp [nxtF, nxtE, h1, h2, h3]
      have e2 : nxtR c au true pv ph = Mf.none := by simp [nxtR, e]
      rw [h3]
      simp (maxSteps := 2000000) (disch := first | omega | (simp only [List.length_append, List.length_cons, List.length_nil, List.length_map] <;> omega)) only [sn3, List.set_cons_zero, List.set_cons_succ, flg_int, swp_seq, swp_reg, swp_ret, swp_cond, seqK_n, seqK_r, condK_t, evK_some, appK_eq, appC_eq, srun_nil, srun_cons, sk_give, sk_un, sk_store, sk_bld, get_mk, raw_slot, raw_lit, put_some, put_none, wb_nil, ev_give, ev_not, ev_bld, ro_int, pubs, pubsFrom, List.map_cons, List.map_nil, List.getD_cons_zero, List.getD_cons_succ, List.set_cons_zero, List.set_cons_succ, List.length_nil, Bool.false_eq_true, Option.map_some, ↓reduceIte, List.zip_nil_right, fillV, Bool.not_false]
      exact fn_mf (res := (10, 11)) (m := Mf.none) (e := 4) rfl rfl ho rfl rfl rfl e.symm e2.symm
    · have e : nxtF c au true pv ph .nilS [] = 0 := by simp [nxtF, nxtE, h1, h2, h3]
      have e2 : nxtR c au true pv ph = nxtM c au true pv ph .nilS [] := by simp [nxtR, e]
      rw [h3]
      simp (maxSteps := 2000000) (disch := first | omega | (simp only [List.length_append, List.length_cons, List.length_nil, List.length_map] <;> omega)) only [s2, getA, ev_ldA, List.drop_zero, List.take_succ_cons, List.take_zero, List.set_cons_zero, List.set_cons_succ, apO_some, flg_int, swp_seq, swp_reg, swp_skip, swp_ret, swp_cond, seqK_n, condK_f, evK_some, appK_eq, appC_eq, srun_nil, srun_cons, sk_give, sk_un, sk_load, sk_store, get_mk, raw_slot, raw_lit, put_some, put_none, wb_nil, ev_give, ev_not, ro_int, ro_agg, ro1_int, ro1_nilS, List.map_cons, List.map_nil, List.getD_cons_zero, List.getD_cons_succ, List.set_cons_zero, List.set_cons_succ, List.getElem?_cons_zero, List.getElem?_cons_succ, List.length_cons, List.length_nil, Nat.reduceAdd, Bool.false_eq_true, ↓reduceIte, Nat.zero_add, Bool.not_true, Nat.le_refl]
      exact fn_mf (res := (10, 11)) (m := nxtM c au true pv ph .nilS []) (e := 0) rfl rfl ho rfl rfl rfl e.symm e2.symm
def KNext0 : List Ob → List SV → SV → Prop := fun st args r => ∃ (c : Cu) (au : Int) (turn : Bool) (pv ph x y : Int), c.fit ∧ okSt st ∧ args = [.agg c.cells, .int .i64 au, .bool turn, .agg (pc0 pv ph x y), .nilS] ∧ r = .tup [.agg (nxtR c au turn pv ph).cells, .int .i64 (nxtF c au turn pv ph .nilS [])]
def O51 : Orc := O50.add 16 (StC KNext0)
theorem s51 : Sound Tryd.prog O51 := s50.addS c16 (by kernel_rfl) (by
  rintro args r st ⟨c, au, turn, pv, ph, x, y, hcf, ho, rfl, rfl⟩
  exact ⟨by simp [sf16], g16n c hcf au turn pv ph x y st ho⟩)
end Go.Sh.F
