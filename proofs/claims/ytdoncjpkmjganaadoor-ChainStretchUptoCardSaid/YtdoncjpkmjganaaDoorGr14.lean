/-
  Chains: ChainLinks, in the shadow machine.
-/
import Derived.Test.YtdoncjpkmjganaaDoorGr13
import Derived.Test.YtdoncjpkmjganaaDoorGra
set_option linter.unusedSimpArgs false
set_option linter.unusedVariables false
namespace Go.Sh.F
open Go.PathLaw Go.Proofs
theorem ro2_agg {l : List SV} : ro2 (.agg l) = .agg (l.map ro1) := rfl
def RowB (st : List Ob) (v : SV) (l : List Bool) : Prop := RowAt st v 1 l.length (l.map .bool)
abbrev bC (z : Bool) : List SV := [.bool z]
theorem oBools : Opn Tryd.prog 44 1 (fun z : SV × List Bool => [z.1]) (fun z => rdR bC z.1 z.2 ∧ (∀ y ∈ z.2, True ∧ (bC y).length = 1) ∧ z.2.length ≤ maxLen) (fun z => (z.2.map fun _ => 0).sum + z.2.length) :=
  Opn.slice oBool Tryd.underlying44 (by kernel_rfl) (by decide)
theorem bC_flat (l : List Bool) : l.flatMap bC = l.map .bool := by
  induction l with
  | nil => rfl
  | cons x l ih => rw [List.flatMap_cons, ih]; rfl
theorem bools_row {v : SV} {l : List Bool} (h : rdR bC v l) (st : List Ob) : RowB st v l := by
  have := rdR_row h (m := 1) (fun _ _ => rfl) st
  rwa [bC_flat] at this
theorem acc_bad {c : Cu} {au : Int} {m : Mf} {own : List Int} (h : m.au ≠ au) : accE c au m own = 4 := by
  have : (m.au == au) = false := by simpa using h
  unfold accE
  rw [this, Bool.and_false]; rfl
theorem RowB.idp {st : List Ob} {v : SV} {l : List Bool} (h : RowB st v l) (n : Nat) : idOk (st.length + n) v = true := by
  refine idOk_mono (Nat.le_add_right _ _) _ (RowAt.idOk h ?_)
  clear h
  induction l with
  | nil => rfl
  | cons x l ih => simp only [List.map_cons, idOks, idOk, Bool.true_and]; exact ih
set_option maxHeartbeats 32000000 in
set_option maxRecDepth 50000 in
theorem g6 (c : Cu) (hcf : c.fit) (au : Int) (tv : SV) (ts : List Bool) (v : SV) (own : List Int) (seen : Int) (st : List Ob) (ht : RowB st tv ts) (htl : ts.length ≤ 1099511627776) (hv : RowI st v own) (hl : own.length ≤ 1099511627776) (ho : okSt st) :
    swpF O54 sf6 [.agg c.cells, .int .i64 au, tv, v, .int .i64 seen] st (fun r st' => r = .bool true ∧ st' = st) := by
  obtain ⟨u1, u2, u3, u4, u6, u7⟩ := hv.facts
  have u5 := hv.lenL
  have uv := hv.cv
  obtain ⟨tv1, tv2, tv3, tv4, _, _⟩ := ht.facts
  have tv5 := ht.lenL
  have i1 := ht.idp 3
  have i2 := RowI.idp hv 3
  have vk := fun x => RowAt.mono hv x
  have o0 : okSt (st ++ [.cells [.int .i64 c.ve, .int .i64 c.he, .int .i64 c.ep, .int .i64 c.ak]]) := okSt_appL ho rfl
  have s1 := fun (w0 : Ob) (a b d e : Int) => st_aggA (st := st) (l := [w0, .cells [.int .i64 0, .int .i64 0, .int .i64 0, .int .i64 0]]) (i := 1) (n := 4) (b := true) (xs := [.int .i64 a, .int .i64 b, .int .i64 d, .int .i64 e]) rfl rfl rfl rfl rfl
  have s2 := fun (w0 w1 : Ob) (a b d e : Int) => st_aggA (st := st) (l := [w0, w1, .cells [.int .i64 0, .int .i64 0, .int .i64 0, .int .i64 0]]) (i := 2) (n := 4) (b := true) (xs := [.int .i64 a, .int .i64 b, .int .i64 d, .int .i64 e]) rfl rfl rfl rfl rfl
  have s3 := fun (w0 w1 w2 : Ob) (a b d e f g h : Int) => st_aggA (st := st) (l := [w0, w1, w2, .cells [.int .i64 0, .int .i64 0, .int .i64 0, .int .i64 0, .int .i64 0, .int .i64 0, .int .i64 0, .nilS]]) (i := 3) (n := 8) (b := true) (xs := [.int .i64 a, .int .i64 b, .int .i64 d, .int .i64 e, .int .i64 f, .int .i64 g, .int .i64 h, .nilS]) rfl rfl rfl rfl rfl
  have s4 := fun (w0 w1 w2 w3 : Ob) (a b d e : Int) => st_aggA (st := st) (l := [w0, w1, w2, w3, .cells [.int .i64 0, .int .i64 0, .int .i64 0, .int .i64 0]]) (i := 4) (n := 4) (b := true) (xs := [.int .i64 a, .int .i64 b, .int .i64 d, .int .i64 e]) rfl rfl rfl rfl rfl
  have s5 := fun (w0 w1 w2 w3 w4 : Ob) (a b d e : Int) => st_aggA (st := st) (l := [w0, w1, w2, w3, w4, .cells [.int .i64 0, .int .i64 0, .int .i64 0, .int .i64 0]]) (i := 5) (n := 4) (b := true) (xs := [.int .i64 a, .int .i64 b, .int .i64 d, .int .i64 e]) rfl rfl rfl rfl rfl
  have s6 := fun (w0 w1 w2 w3 w4 w5 : Ob) (a b d e : Int) => st_aggA (st := st) (l := [w0, w1, w2, w3, w4, w5, .cells [.int .i64 0, .int .i64 0, .int .i64 0, .int .i64 0]]) (i := 6) (n := 4) (b := true) (xs := [.int .i64 a, .int .i64 b, .int .i64 d, .int .i64 e]) rfl rfl rfl rfl rfl
  have s7 := fun (w0 w1 w3 w4 w5 w6 : Ob) (a b d e a' b' d' e' : Int) => st_aggA (st := st) (l := [w0, w1, .cells [.int .i64 a', .int .i64 b', .int .i64 d', .int .i64 e'], w3, w4, w5, w6]) (i := 2) (n := 4) (b := true) (xs := [.int .i64 a, .int .i64 b, .int .i64 d, .int .i64 e]) rfl rfl rfl rfl rfl
  simp only [Cu.cells]
  simp (maxSteps := 2000000) (disch := first | omega | (simp only [List.length_append, List.length_cons, List.length_nil, List.length_map] <;> omega)) only [sf6, cv_agg, cell_int, List.set_cons_zero, List.set_cons_succ, flg_bool, exc_agg, swp_seq, swp_reg, seqK_n, evK_some, appK_eq, srun_nil, srun_cons, stepK_call, swpF_eq, sk_give, sk_box, get_mk, raw_slot, raw_lit, put_some, wb_nil, ev_give, ev_box, ro_bool, ro1_int, got_agg, pubs, pubsFrom, List.map_cons, List.map_nil, List.getD_cons_zero, List.set_cons_zero, List.set_cons_succ, List.length_cons, List.length_nil, List.replicate_succ, List.replicate_zero, List.cons_append, List.nil_append, Nat.reduceAdd, Nat.reduceSub, Bool.false_eq_true, ↓reduceIte, List.all_cons, List.all_nil, Bool.and_self, Nat.zero_add]
  refine callK_intro (t9 o0) ?_
  have h1 := phz
  have h2 := phz
  have h3 := phz
  have h4 := phz
  have h5 := phz
  have h6 := phz
  rcases bt (decide (30 < (ts.length : Int))) with h1 | h1
  rotate_left
  rcases bt (decide (100 < (own.length : Int))) with h2 | h2
  rotate_left
  rcases bt (decide (c.ve < 0)) with h3 | h3
  rotate_left
  rcases bt (decide (seen < c.ak)) with h4 | h4
  rotate_left
  rcases bt (decide (seen < 0)) with h5 | h5
  rotate_left
  rcases bt (decide ((own.length : Int) < seen)) with h6 | h6
  rotate_left
  any_goals (simp (maxSteps := 2000000) (disch := first | omega | (simp only [List.length_append, List.length_cons, List.length_nil, List.length_map] <;> omega)) only [h1, h2, h3, h4, h5, h6, u2, u3, u5, tv1, tv5, cv_int, cell_int, getA0, List.append_assoc, Nat.add_zero, List.set_cons_zero, List.set_cons_succ, flg_bool, exc_int, swp_seq, swp_reg, swp_skip, swp_ret, swp_cond, seqK_n, seqK_r, condK_t, condK_f, evK_some, appK_eq, appC_eq, grd_t, srun_nil, srun_cons, stepK_grd, fin_ret, sk_mv, sk_take, sk_give, sk_pick, sk_bin, sk_fld, sk_load, sk_store, sk_lenL, sk_bld, sk_alloc, get_mk, raw_slot, raw_lit, put_some, wb_nil, ev_mv, ev_take, ev_give, ev_pick, ev_fld, bin_lss, bin_gtr, ev_bld, ev_alloc, ev_ldP, ldP_some, ro_int, ro_bool, got_int, pubs, pubsFrom, List.map_cons, List.map_nil, List.getD_cons_zero, List.getD_cons_succ, List.set_cons_zero, List.set_cons_succ, List.getElem?_cons_zero, List.getElem?_cons_succ, List.length_cons, List.length_nil, List.cons_append, List.nil_append, Nat.reduceAdd, Nat.reduceLeDiff, true_and, and_true, Bool.false_eq_true, Option.map_some, ↓reduceIte, List.all_cons, List.all_nil, Bool.and_self, List.zip_cons_cons, List.zip_nil_right, fillV, wrCells, Nat.zero_add, reduceCtorEq, gt_iff_lt, List.length_append]; first | exact ⟨_, trim1 ho rfl⟩ | exact ⟨_, trim1 ho rfl, rfl⟩ | exact ⟨_, trim1 ho rfl, rfl, rfl⟩)

  have n1 : ts.length ≤ 30 := by simp at h1; omega
  have n3 : 0 ≤ c.ve := by simpa using h3
  have n4 : c.ak ≤ seen := by simpa using h4
  have n5 : 0 ≤ seen := by simpa using h5
  have n6 : seen ≤ (own.length : Int) := by simpa using h6
  rcases bt (decide (0 < seen)) with h7 | h7
  · have n7 : 0 < seen := by simpa using h7
    obtain ⟨j, ej, hj, edg⟩ := digF_at (own := own) (v := seen) (by omega) n6
    have y1 := hv.idxB hj .i64
    rw [Nat.mul_one] at y1
    have y2 := hv.ld1 (isv_at (List.getElem?_eq_getElem hj))
    simp (maxSteps := 2000000) (disch := first | omega | (simp only [List.length_append, List.length_cons, List.length_nil, List.length_map] <;> omega)) only [ej, y1, y2, h1, h2, h3, h4, h5, h6, h7, s1, s2, u1, u2, u3, u5, tv1, tv5, cv_int, cell_int, getA0, getA, setA, ev_ldA, List.drop_zero, List.take_succ_cons, List.take_zero, List.append_assoc, Nat.add_zero, List.set_cons_zero, List.set_cons_succ, apO_some, flg_bool, exc_int, sk_idxB, swp_seq, swp_reg, swp_skip, swp_block, swp_cond, seqK_n, condK_t, condK_f, evK_some, appK_eq, appC_eq, grd_t, srun_nil, srun_cons, stepK_grd, sk_mv, sk_take, sk_give, sk_pick, sk_bin, sk_fld, sk_load, sk_store, sk_lenL, sk_bld, sk_alloc, get_mk, raw_slot, raw_lit, put_some, put_none, wb_nil, ev_mv, ev_take, ev_give, ev_pick, ev_fld, bin_sub, bin_lss, bin_gtr, ev_bld, ev_alloc, ev_ldP, ldP_some, stP_some, ro_int, ro_bool, ro_agg, ro1_int, got_int, pubs, pubsFrom, List.map_cons, List.map_nil, List.getD_cons_zero, List.getD_cons_succ, List.set_cons_zero, List.set_cons_succ, List.getElem?_cons_zero, List.getElem?_cons_succ, List.length_cons, List.length_nil, List.cons_append, List.nil_append, Nat.reduceAdd, Nat.reduceLeDiff, Nat.reduceLT, and_true, Bool.false_eq_true, Option.map_some, ↓reduceIte, List.all_cons, List.all_nil, Bool.and_self, List.zip_cons_cons, List.zip_nil_right, fillV, wrCells, Nat.zero_add, st_int, gt_iff_lt, wrap_i64, List.length_append, Nat.le_refl]
    have eph : (own[j] == digF own seen) = true := by rw [beq_iff_eq]; exact edg.symm
    have o3 : ∀ k : Cu, okSt (st ++ [.cells [.int .i64 c.ve, .int .i64 c.he, .int .i64 c.ep, .int .i64 c.ak], .cells [.int .i64 seen, .int .i64 own[j], .int .i64 0, .int .i64 0], .cells [.int .i64 k.ve, .int .i64 k.he, .int .i64 k.ep, .int .i64 k.ak]]) := fun k => okSt_appL ho rfl
    refine swp_lp (fun S => ∃ (i : Nat) (k : Cu), i ≤ ts.length ∧ k.ve = c.ve + i ∧ k.ak ≤ seen ∧ k.fit ∧ S = ⟨[.undef, .int .i64 au, tv, v, .int .i64 seen, .ptr st.length 0, .undef, .undef, .undef, .undef, .undef, .bool true, .ptr (st.length + 1) 0, .ptr (st.length + 2) 0, .int .i64 i] ++ List.replicate 160 .undef, st ++ [.cells [.int .i64 c.ve, .int .i64 c.he, .int .i64 c.ep, .int .i64 c.ak], .cells [.int .i64 seen, .int .i64 own[j], .int .i64 0, .int .i64 0], .cells [.int .i64 k.ve, .int .i64 k.he, .int .i64 k.ep, .int .i64 k.ak]]⟩)
        (fun S => match S.get 14 with | .int _ k => ((ts.length : Int) - k).toNat | _ => 0)
        ⟨[.undef, .int .i64 au, tv, v, .int .i64 seen, .ptr st.length 0, .undef, .undef, .undef, .undef, .undef, .bool true, .ptr (st.length + 1) 0, .ptr (st.length + 2) 0, .int .i64 0] ++ List.replicate 160 .undef, st ++ [.cells [.int .i64 c.ve, .int .i64 c.he, .int .i64 c.ep, .int .i64 c.ak], .cells [.int .i64 seen, .int .i64 own[j], .int .i64 0, .int .i64 0], .cells [.int .i64 c.ve, .int .i64 c.he, .int .i64 c.ep, .int .i64 c.ak]]⟩ ?_ ⟨0, c, Nat.zero_le _, by simp, n4, hcf, rfl⟩ ?_
    · refine Forget.of ?_
      repeat first | exact fg_e | refine fg_d ?_ | refine fg_k rfl ?_
    rintro S ⟨i, k, hi, hkv, hka, hkf, rfl⟩
    by_cases him : i = ts.length
    · have hd : decide ((i : Int) < (ts.length : Int)) = false := by rw [decide_eq_false_iff_not]; omega
      have ev : (k.ve == c.ve + (ts.length : Int)) = true := by rw [beq_iff_eq, hkv, him]
      have eb : c.ve + (ts.length : Int) ≤ 9223372036854775807 := by obtain ⟨⟨_, h⟩, _⟩ := hkf; omega
      simp (maxSteps := 2000000) (disch := first | omega | (simp only [List.length_append, List.length_cons, List.length_nil, List.length_map] <;> omega)) only [hd, ev, tv1, tv2, tv3, tv5, getA0, getA, Nat.add_zero, List.set_cons_zero, List.set_cons_succ, lpK_e, flg_bool, swp_seq, swp_reg, swp_ret, swp_exit, swp_cond, seqK_n, seqK_e, blkK_e, condK_f, evK_some, appK_eq, grd_t, srun_nil, srun_cons, stepK_grd, fin_ret, sk_mv, sk_take, sk_give, sk_pick, sk_bin, sk_fld, sk_load, sk_lenL, get_mk, raw_slot, raw_lit, put_some, wb_nil, ev_mv, ev_take, ev_give, ev_pick, ev_fld, bin_add, bin_eql, bin_lss, ev_ldP, ldP_some, ro_int, ro_bool, List.map_cons, List.map_nil, List.getD_cons_zero, List.getD_cons_succ, List.set_cons_zero, List.set_cons_succ, List.getElem?_cons_zero, List.getElem?_cons_succ, List.length_cons, List.length_nil, List.replicate_succ, List.replicate_zero, List.cons_append, List.nil_append, Nat.reduceAdd, true_and, Bool.false_eq_true, Option.map_some, ↓reduceIte, Nat.zero_add, wrap_i64, List.length_append]
      first | exact ⟨_, trim1 ho rfl⟩ | exact ⟨_, trim1 ho rfl, rfl⟩ | exact ⟨_, trim1 ho rfl, rfl, rfl⟩ | exact ⟨_, trim1 ho rfl, by simp, rfl⟩ | exact ⟨_, trim1 ho rfl, by simp⟩
    have hd : decide ((i : Int) < (ts.length : Int)) = true := by rw [decide_eq_true_eq]; omega
    have hil : i < ts.length := by omega
    have fin : ((ts.length : Int) - ((i + 1 : Nat) : Int)).toNat < ((ts.length : Int) - (i : Int)).toNat := by omega
    have z1 := ht.idxA hil .i64
    rw [Nat.mul_one] at z1
    have z2 := ht.ld1 (c := .bool ts[i]) (k := i) (by rw [List.getElem?_map, List.getElem?_eq_getElem hil]; rfl)
    obtain ⟨t, ett⟩ : ∃ t, ts[i] = t := ⟨_, rfl⟩
    rw [ett] at z2
    rcases bf (nxtF k au t seen (own[j]) .nilS [] == 0) with e1 | e1
    · have e1' : nxtF k au t seen (own[j]) .nilS [] ≠ 0 := by simpa using e1
      obtain ⟨en, e24⟩ := nxt_no e1'
      simp (maxSteps := 2000000) (disch := first | omega | (simp only [List.length_append, List.length_cons, List.length_nil, List.length_map] <;> omega)) only [hd, z1, tv1, tv5, List.set_cons_zero, List.set_cons_succ, swp_seq, swp_reg, swp_skip, swp_block, swp_cond, seqK_n, condK_t, evK_some, appK_eq, srun_nil, srun_cons, sk_mv, sk_bin, sk_idxA, sk_lenL, get_mk, raw_slot, put_some, wb_nil, ev_mv, bin_lss, ro_int, List.map_cons, List.map_nil, List.getD_cons_zero, List.getD_cons_succ, List.set_cons_zero, List.set_cons_succ, List.length_cons, List.length_nil, List.replicate_succ, List.replicate_zero, List.cons_append, List.nil_append, Nat.reduceAdd, Nat.zero_add, List.length_append]
      apply swp_to
      · repeat' first
          | exact swp_ttI
          | refine swp_bothI ?_ ?_
          | (refine callK_intro (t16 (c := k) hkf (okSt_appL ho rfl)) ?_; rw [en])
          | exact ⟨rfl, rfl⟩
          | exact rfl
          | simp (maxSteps := 2000000) (disch := first | omega | (simp only [List.length_append, List.length_cons, List.length_nil, List.length_map] <;> omega)) only [ro2_agg, z2, Mf.none, Mf.cells, s3, getA, ev_ldA, List.drop_zero, List.take_succ_cons, List.take_zero, List.append_assoc, List.set_cons_zero, List.set_cons_succ, apO_some, flg_int, flg_agg, exc_bool, exc_int, exc_nilS, exc_agg, swp_seq, swp_reg, seqK_n, evK_some, appK_eq, appC_eq, srun_nil, srun_cons, stepK_call, sk_mv, sk_give, sk_load, sk_store, sk_alloc, sk_ext, get_mk, raw_slot, raw_lit, put_some, put_none, wb_nil, ev_mv, ev_give, ev_ext, ev_alloc, ro_int, ro_bool, ro_agg, ro_tup, ro1_int, ro1_nilS, ro2_int, got_int, got_bool, got_nilS, got_agg, pubs, pubsFrom, List.map_cons, List.map_nil, List.getD_cons_zero, List.getD_cons_succ, List.set_cons_zero, List.set_cons_succ, List.getElem?_cons_zero, List.getElem?_cons_succ, List.length_cons, List.length_nil, List.cons_append, List.nil_append, Nat.reduceAdd, true_and, Bool.false_eq_true, Option.map_some, ↓reduceIte, Nat.zero_add, List.length_append, Nat.le_refl]
      rcases e24 with e2 | e2
      · rw [e2]
        simp (maxSteps := 2000000) (disch := first | omega | (simp only [List.length_append, List.length_cons, List.length_nil, List.length_map] <;> omega)) only [nbI, getA, List.set_cons_zero, List.set_cons_succ, lpK_r, flg_bool, exc_bool, exc_int, swp_seq, swp_reg, swp_ret, swp_cond, seqK_n, seqK_r, blkK_r, condK_t, evK_some, appK_eq, grd_t, srun_nil, srun_cons, stepK_grd, fin_ret, sk_mv, sk_take, sk_give, sk_pick, sk_bin, sk_fld, sk_load, get_mk, raw_slot, raw_lit, put_some, wb_nil, ev_mv, ev_take, ev_give, ev_pick, ev_fld, bin_eql, bin_neq, ev_ldP, ldP_some, ro_int, ro_bool, got_int, got_bool, List.map_cons, List.map_nil, List.getD_cons_zero, List.getD_cons_succ, List.set_cons_zero, List.set_cons_succ, List.getElem?_cons_zero, List.getElem?_cons_succ, true_and, Bool.false_eq_true, Option.map_some, ↓reduceIte, Nat.zero_add, reduceCtorEq, Bool.not_false, beq_self_eq_true, Int.reduceBEq]
        first | exact ⟨_, trim1 ho rfl⟩ | exact ⟨_, trim1 ho rfl, rfl⟩ | exact ⟨_, trim1 ho rfl, rfl, rfl⟩ | exact ⟨_, trim1 ho rfl, by simp, rfl⟩ | exact ⟨_, trim1 ho rfl, by simp⟩
      · rw [e2]
        simp (maxSteps := 2000000) (disch := first | omega | (simp only [List.length_append, List.length_cons, List.length_nil, List.length_map] <;> omega)) only [nbI, getA, List.set_cons_zero, List.set_cons_succ, lpK_r, flg_bool, exc_bool, exc_int, swp_seq, swp_reg, swp_ret, swp_cond, seqK_n, seqK_r, blkK_r, condK_t, evK_some, appK_eq, grd_t, srun_nil, srun_cons, stepK_grd, fin_ret, sk_mv, sk_take, sk_give, sk_pick, sk_bin, sk_fld, sk_load, get_mk, raw_slot, raw_lit, put_some, wb_nil, ev_mv, ev_take, ev_give, ev_pick, ev_fld, bin_eql, bin_neq, ev_ldP, ldP_some, ro_int, ro_bool, got_int, got_bool, List.map_cons, List.map_nil, List.getD_cons_zero, List.getD_cons_succ, List.set_cons_zero, List.set_cons_succ, List.getElem?_cons_zero, List.getElem?_cons_succ, true_and, Bool.false_eq_true, Option.map_some, ↓reduceIte, Nat.zero_add, Bool.not_false, beq_self_eq_true, Int.reduceBEq]
        first | exact ⟨_, trim1 ho rfl⟩ | exact ⟨_, trim1 ho rfl, rfl⟩ | exact ⟨_, trim1 ho rfl, rfl, rfl⟩ | exact ⟨_, trim1 ho rfl, by simp, rfl⟩ | exact ⟨_, trim1 ho rfl, by simp⟩
    have e1' : nxtF k au t seen (own[j]) .nilS [] = 0 := by simpa using e1
    obtain ⟨en, hr, hve, hne⟩ := nxt_ok e1'
    have hMf : (nxtM k au t seen (own[j]) .nilS []).fit := by unfold nxtM Mf.fit; simp only; obtain ⟨⟨_, _⟩, _⟩ := hkf; omega
    have hrh := right_head hr
    have hau : 0 ≤ au ∧ au ≤ 1 := by
      have w : wth 1 au = true := hrh.1
      simpa only [wth, Bool.and_eq_true, decide_eq_true_eq] using w
    have hep : 0 ≤ k.ep ∧ k.ep ≤ 100 := by
      have w : wth 100 k.ep = true := hrh.2.2.2.2.1
      simpa only [wth, Bool.and_eq_true, decide_eq_true_eq] using w
    have x1 : accE k au (nxtM k au t seen (own[j]) .nilS []) own = 0 := by
      rw [acc_nxt hr, eph]
      have : decide (k.ak ≤ seen) = true := by simpa using hka
      rw [this]; rfl
    have x1c : accC k au (nxtM k au t seen (own[j]) .nilS []) (100 + (i : Int)) own = ⟨k.ve + 1, 100 + (i : Int), nxtE k t, seen⟩ := by unfold accC; rw [if_pos x1]; rfl
    have x2 : accE ⟨k.ve + 1, 100 + (i : Int), nxtE k t, seen⟩ au (nxtM k au t seen (own[j]) .nilS []) own = 9 := acc_old hr rfl (Int.le_refl _)
    have x2c : accC ⟨k.ve + 1, 100 + (i : Int), nxtE k t, seen⟩ au (nxtM k au t seen (own[j]) .nilS []) (100 + (i : Int)) own = ⟨k.ve + 1, 100 + (i : Int), nxtE k t, seen⟩ := by unfold accC; rw [if_neg (by rw [x2]; decide)]
    have x3 : accE k (au + 1) (nxtM k au t seen (own[j]) .nilS []) own = 4 := acc_bad (by show au ≠ au + 1; omega)
    have x3c : accC k (au + 1) (nxtM k au t seen (own[j]) .nilS []) (100 + (i : Int)) own = k := by unfold accC; rw [if_neg (by rw [x3]; decide)]
    have nf : Cu.fit ⟨k.ve + 1, 100 + (i : Int), nxtE k t, seen⟩ := by
      obtain ⟨⟨_, _⟩, _, _⟩ := hkf
      refine ⟨by simp only; omega, ?_⟩
      unfold nxtE; cases t <;> simp <;> omega
    have nt : (nxtE k t == k.ep + 1) = t := by
      unfold nxtE
      cases t
      · simp; omega
      · simp
    simp (maxSteps := 2000000) (disch := first | omega | (simp only [List.length_append, List.length_cons, List.length_nil, List.length_map] <;> omega)) only [hd, z1, tv1, tv5, List.set_cons_zero, List.set_cons_succ, swp_seq, swp_reg, swp_skip, swp_block, swp_cond, seqK_n, condK_t, evK_some, appK_eq, srun_nil, srun_cons, sk_mv, sk_bin, sk_idxA, sk_lenL, get_mk, raw_slot, put_some, wb_nil, ev_mv, bin_lss, ro_int, List.map_cons, List.map_nil, List.getD_cons_zero, List.getD_cons_succ, List.set_cons_zero, List.set_cons_succ, List.length_cons, List.length_nil, List.replicate_succ, List.replicate_zero, List.cons_append, List.nil_append, Nat.reduceAdd, Nat.zero_add, List.length_append]
    apply swp_to
    · repeat' first
        | exact swp_ttI
        | refine swp_bothI ?_ ?_
        | (refine callK_intro (t16 (c := k) hkf (okSt_appL ho rfl)) ?_; rw [en, e1'])
        | exact ⟨rfl, rfl⟩
        | exact rfl
        | simp (maxSteps := 2000000) (disch := first | omega | (simp only [List.length_append, List.length_cons, List.length_nil, List.length_map] <;> omega)) only [ro2_agg, z2, nxtM, Mf.cells, s3, getA, ev_ldA, List.drop_zero, List.take_succ_cons, List.take_zero, List.append_assoc, List.set_cons_zero, List.set_cons_succ, apO_some, flg_int, flg_agg, exc_bool, exc_int, exc_nilS, exc_agg, swp_seq, swp_reg, seqK_n, evK_some, appK_eq, appC_eq, srun_nil, srun_cons, stepK_call, sk_mv, sk_give, sk_load, sk_store, sk_alloc, sk_ext, get_mk, raw_slot, raw_lit, put_some, put_none, wb_nil, ev_mv, ev_give, ev_ext, ev_alloc, ro_int, ro_bool, ro_agg, ro_tup, ro1_int, ro1_nilS, ro2_int, got_int, got_bool, got_nilS, got_agg, pubs, pubsFrom, List.map_cons, List.map_nil, List.getD_cons_zero, List.getD_cons_succ, List.set_cons_zero, List.set_cons_succ, List.getElem?_cons_zero, List.getElem?_cons_succ, List.length_cons, List.length_nil, List.cons_append, List.nil_append, Nat.reduceAdd, true_and, Bool.false_eq_true, Option.map_some, ↓reduceIte, Nat.zero_add, List.length_append, Nat.le_refl]
    simp (maxSteps := 2000000) (disch := first | omega | (simp only [List.length_append, List.length_cons, List.length_nil, List.length_map] <;> omega)) only [u1, u2, u3, getA, ev_ldA, List.drop_zero, List.take_succ_cons, List.take_zero, List.set_cons_zero, List.set_cons_succ, apO_some, exc_int, exc_agg, swp_seq, swp_reg, swp_skip, swp_cond, seqK_n, condK_f, evK_some, appK_eq, srun_nil, srun_cons, stepK_call, sk_mv, sk_bin, sk_load, get_mk, raw_slot, raw_lit, put_some, wb_nil, ev_mv, bin_add, bin_neq, ro_int, ro_agg, ro1_int, ro1_nilS, got_int, got_agg, pubs, pubsFrom, List.map_cons, List.map_nil, List.getD_cons_zero, List.getD_cons_succ, List.set_cons_zero, List.set_cons_succ, List.getElem?_cons_zero, List.getElem?_cons_succ, List.length_cons, List.length_nil, Nat.reduceAdd, Bool.false_eq_true, ↓reduceIte, Nat.zero_add, bne_self_eq_false, wrap_i64, Nat.le_refl]
    refine callK_intro (t11 (c := k) (m := nxtM k au t seen (own[j]) .nilS []) (nil_ok rfl rfl _) hMf (vk _) hl (okSt_appL ho rfl)) ?_
    rw [x1, x1c]
    simp (maxSteps := 2000000) (disch := first | omega | (simp only [List.length_append, List.length_cons, List.length_nil, List.length_map] <;> omega)) only [Cu.cells, s4, u1, u2, u3, getA, ev_ldA, List.drop_zero, List.take_succ_cons, List.take_zero, List.append_assoc, List.set_cons_zero, List.set_cons_succ, apO_some, flg_int, flg_agg, exc_int, exc_agg, swp_seq, swp_reg, seqK_n, evK_some, appK_eq, appC_eq, srun_nil, srun_cons, stepK_call, sk_mv, sk_give, sk_bin, sk_load, sk_store, sk_alloc, sk_ext, get_mk, raw_slot, raw_lit, put_some, put_none, wb_nil, ev_mv, ev_give, ev_ext, bin_add, ev_alloc, ro_int, ro_agg, ro_tup, ro1_int, ro1_nilS, ro2_int, got_int, got_agg, pubs, pubsFrom, List.map_cons, List.map_nil, List.getD_cons_zero, List.getD_cons_succ, List.set_cons_zero, List.set_cons_succ, List.getElem?_cons_zero, List.getElem?_cons_succ, List.length_cons, List.length_nil, List.cons_append, List.nil_append, Nat.reduceAdd, Bool.false_eq_true, Option.map_some, ↓reduceIte, Nat.zero_add, wrap_i64, List.length_append, Nat.le_refl]
    refine callK_intro (t11 (c := ⟨k.ve + 1, 100 + (i : Int), nxtE k t, seen⟩) (m := nxtM k au t seen (own[j]) .nilS []) (nil_ok rfl rfl _) hMf (vk _) hl (okSt_appL ho rfl)) ?_
    rw [x2, x2c]
    simp (maxSteps := 2000000) (disch := first | omega | (simp only [List.length_append, List.length_cons, List.length_nil, List.length_map] <;> omega)) only [Cu.cells, s5, u1, u2, u3, getA, ev_ldA, List.drop_zero, List.take_succ_cons, List.take_zero, List.append_assoc, List.set_cons_zero, List.set_cons_succ, apO_some, flg_int, flg_agg, exc_int, exc_agg, swp_seq, swp_reg, seqK_n, evK_some, appK_eq, appC_eq, srun_nil, srun_cons, stepK_call, sk_mv, sk_give, sk_bin, sk_load, sk_store, sk_alloc, sk_ext, get_mk, raw_slot, raw_lit, put_some, put_none, wb_nil, ev_mv, ev_give, ev_ext, bin_add, ev_alloc, ro_int, ro_agg, ro_tup, ro1_int, ro1_nilS, ro2_int, got_int, got_agg, pubs, pubsFrom, List.map_cons, List.map_nil, List.getD_cons_zero, List.getD_cons_succ, List.set_cons_zero, List.set_cons_succ, List.getElem?_cons_zero, List.getElem?_cons_succ, List.length_cons, List.length_nil, List.cons_append, List.nil_append, Nat.reduceAdd, Bool.false_eq_true, Option.map_some, ↓reduceIte, Nat.zero_add, wrap_i64, List.length_append, Nat.le_refl]
    refine callK_intro (t11 (c := k) (m := nxtM k au t seen (own[j]) .nilS []) (nil_ok rfl rfl _) hMf (vk _) hl (okSt_appL ho rfl)) ?_
    rw [x3, x3c]
    have hw : (t != t) = false := by simp
    simp (maxSteps := 2000000) (disch := first | omega | (simp only [List.length_append, List.length_cons, List.length_nil, List.length_map] <;> omega)) only [Cu.cells, nt, z1, z2, s6, s7, tv1, eq_four, getA, ev_ldA, List.drop_zero, List.take_succ_cons, List.take_zero, List.append_assoc, Nat.add_zero, List.set_cons_zero, List.set_cons_succ, lpK_n, apO_some, flg_int, flg_agg, exc_int, swp_seq, swp_reg, swp_skip, swp_cond, seqK_n, blkK_n, condK_f, evK_some, appK_eq, appC_eq, grd_t, srun_nil, srun_cons, stepK_grd, sk_mv, sk_take, sk_give, sk_pick, sk_bin, sk_eqB, sk_eqA, sk_fld, sk_idxA, sk_load, sk_store, sk_alloc, sk_ext, get_mk, raw_slot, raw_lit, put_some, put_none, wb_nil, ev_mv, ev_take, ev_give, ev_pick, ev_eqB, ev_fld, ev_ext, bin_add, bin_eql, bin_neq, ev_alloc, ev_ldP, ldP_some, ro_int, ro_bool, ro_agg, ro_tup, ro1_int, ro2_int, got_int, List.map_cons, List.map_nil, List.getD_cons_zero, List.getD_cons_succ, List.set_cons_zero, List.set_cons_succ, List.getElem?_cons_zero, List.getElem?_cons_succ, List.length_cons, List.length_nil, List.cons_append, List.nil_append, Nat.reduceAdd, Bool.false_eq_true, Option.map_some, ↓reduceIte, Bool.and_self, Nat.zero_add, Bool.not_true, beq_self_eq_true, bne_self_eq_false, wrap_i64, List.length_append, Nat.le_refl]
    refine ⟨_, Forget.cutA (l := [_, _, _]) (x := [_, _, _, _]) ?_ (by simp) ?_ (o3 ⟨k.ve + 1, 100 + (i : Int), nxtE k t, seen⟩), ⟨i + 1, ⟨k.ve + 1, 100 + (i : Int), nxtE k t, seen⟩, by omega, by simp only; omega, Int.le_refl _, nf, rfl⟩, by exact fin⟩
    · repeat first | exact fg_e | refine fg_d ?_ | refine fg_k rfl ?_
    · simp [idOks, idOk, i1, i2]
    
  · have n7 : ¬ 0 < seen := by simpa using h7
    simp (maxSteps := 2000000) (disch := first | omega | (simp only [List.length_append, List.length_cons, List.length_nil, List.length_map] <;> omega)) only [h1, h2, h3, h4, h5, h6, h7, s1, s2, u2, u3, u5, tv1, tv5, cv_int, cell_int, getA0, ev_ldA, List.drop_zero, List.take_succ_cons, List.take_zero, List.append_assoc, Nat.add_zero, List.set_cons_zero, List.set_cons_succ, apO_some, flg_bool, exc_int, swp_seq, swp_reg, swp_skip, swp_block, swp_cond, seqK_n, condK_f, evK_some, appK_eq, appC_eq, grd_t, srun_nil, srun_cons, stepK_grd, sk_mv, sk_take, sk_give, sk_pick, sk_bin, sk_fld, sk_load, sk_store, sk_lenL, sk_bld, sk_alloc, get_mk, raw_slot, raw_lit, put_some, put_none, wb_nil, ev_mv, ev_take, ev_give, ev_pick, ev_fld, bin_lss, bin_gtr, ev_bld, ev_alloc, ev_ldP, ldP_some, ro_int, ro_bool, ro_agg, ro1_int, got_int, pubs, pubsFrom, List.map_cons, List.map_nil, List.getD_cons_zero, List.getD_cons_succ, List.set_cons_zero, List.set_cons_succ, List.getElem?_cons_zero, List.getElem?_cons_succ, List.length_cons, List.length_nil, List.cons_append, List.nil_append, Nat.reduceAdd, Nat.reduceLeDiff, and_true, Bool.false_eq_true, Option.map_some, ↓reduceIte, List.all_cons, List.all_nil, Bool.and_self, List.zip_cons_cons, List.zip_nil_right, fillV, wrCells, Nat.zero_add, gt_iff_lt, List.length_append, Nat.le_refl]
    have eph : (0 == digF own seen) = true := by rw [beq_iff_eq]; unfold digF; by_cases h : seen = 0 <;> simp [h]; omega
    have o3 : ∀ k : Cu, okSt (st ++ [.cells [.int .i64 c.ve, .int .i64 c.he, .int .i64 c.ep, .int .i64 c.ak], .cells [.int .i64 seen, .int .i64 0, .int .i64 0, .int .i64 0], .cells [.int .i64 k.ve, .int .i64 k.he, .int .i64 k.ep, .int .i64 k.ak]]) := fun k => okSt_appL ho rfl
    refine swp_lp (fun S => ∃ (i : Nat) (k : Cu), i ≤ ts.length ∧ k.ve = c.ve + i ∧ k.ak ≤ seen ∧ k.fit ∧ S = ⟨[.undef, .int .i64 au, tv, v, .int .i64 seen, .ptr st.length 0, .undef, .undef, .undef, .undef, .undef, .bool true, .ptr (st.length + 1) 0, .ptr (st.length + 2) 0, .int .i64 i] ++ List.replicate 160 .undef, st ++ [.cells [.int .i64 c.ve, .int .i64 c.he, .int .i64 c.ep, .int .i64 c.ak], .cells [.int .i64 seen, .int .i64 0, .int .i64 0, .int .i64 0], .cells [.int .i64 k.ve, .int .i64 k.he, .int .i64 k.ep, .int .i64 k.ak]]⟩)
        (fun S => match S.get 14 with | .int _ k => ((ts.length : Int) - k).toNat | _ => 0)
        ⟨[.undef, .int .i64 au, tv, v, .int .i64 seen, .ptr st.length 0, .undef, .undef, .undef, .undef, .undef, .bool true, .ptr (st.length + 1) 0, .ptr (st.length + 2) 0, .int .i64 0] ++ List.replicate 160 .undef, st ++ [.cells [.int .i64 c.ve, .int .i64 c.he, .int .i64 c.ep, .int .i64 c.ak], .cells [.int .i64 seen, .int .i64 0, .int .i64 0, .int .i64 0], .cells [.int .i64 c.ve, .int .i64 c.he, .int .i64 c.ep, .int .i64 c.ak]]⟩ ?_ ⟨0, c, Nat.zero_le _, by simp, n4, hcf, rfl⟩ ?_
    · refine Forget.of ?_
      repeat first | exact fg_e | refine fg_d ?_ | refine fg_k rfl ?_
    rintro S ⟨i, k, hi, hkv, hka, hkf, rfl⟩
    by_cases him : i = ts.length
    · have hd : decide ((i : Int) < (ts.length : Int)) = false := by rw [decide_eq_false_iff_not]; omega
      have ev : (k.ve == c.ve + (ts.length : Int)) = true := by rw [beq_iff_eq, hkv, him]
      have eb : c.ve + (ts.length : Int) ≤ 9223372036854775807 := by obtain ⟨⟨_, h⟩, _⟩ := hkf; omega
      simp (maxSteps := 2000000) (disch := first | omega | (simp only [List.length_append, List.length_cons, List.length_nil, List.length_map] <;> omega)) only [hd, ev, tv1, tv2, tv3, tv5, getA0, getA, Nat.add_zero, List.set_cons_zero, List.set_cons_succ, lpK_e, flg_bool, swp_seq, swp_reg, swp_ret, swp_exit, swp_cond, seqK_n, seqK_e, blkK_e, condK_f, evK_some, appK_eq, grd_t, srun_nil, srun_cons, stepK_grd, fin_ret, sk_mv, sk_take, sk_give, sk_pick, sk_bin, sk_fld, sk_load, sk_lenL, get_mk, raw_slot, raw_lit, put_some, wb_nil, ev_mv, ev_take, ev_give, ev_pick, ev_fld, bin_add, bin_eql, bin_lss, ev_ldP, ldP_some, ro_int, ro_bool, List.map_cons, List.map_nil, List.getD_cons_zero, List.getD_cons_succ, List.set_cons_zero, List.set_cons_succ, List.getElem?_cons_zero, List.getElem?_cons_succ, List.length_cons, List.length_nil, List.replicate_succ, List.replicate_zero, List.cons_append, List.nil_append, Nat.reduceAdd, true_and, Bool.false_eq_true, Option.map_some, ↓reduceIte, Nat.zero_add, wrap_i64, List.length_append]
      first | exact ⟨_, trim1 ho rfl⟩ | exact ⟨_, trim1 ho rfl, rfl⟩ | exact ⟨_, trim1 ho rfl, rfl, rfl⟩ | exact ⟨_, trim1 ho rfl, by simp, rfl⟩ | exact ⟨_, trim1 ho rfl, by simp⟩
    have hd : decide ((i : Int) < (ts.length : Int)) = true := by rw [decide_eq_true_eq]; omega
    have hil : i < ts.length := by omega
    have fin : ((ts.length : Int) - ((i + 1 : Nat) : Int)).toNat < ((ts.length : Int) - (i : Int)).toNat := by omega
    have z1 := ht.idxA hil .i64
    rw [Nat.mul_one] at z1
    have z2 := ht.ld1 (c := .bool ts[i]) (k := i) (by rw [List.getElem?_map, List.getElem?_eq_getElem hil]; rfl)
    obtain ⟨t, ett⟩ : ∃ t, ts[i] = t := ⟨_, rfl⟩
    rw [ett] at z2
    rcases bf (nxtF k au t seen (0) .nilS [] == 0) with e1 | e1
    · have e1' : nxtF k au t seen (0) .nilS [] ≠ 0 := by simpa using e1
      obtain ⟨en, e24⟩ := nxt_no e1'
      simp (maxSteps := 2000000) (disch := first | omega | (simp only [List.length_append, List.length_cons, List.length_nil, List.length_map] <;> omega)) only [hd, z1, tv1, tv5, List.set_cons_zero, List.set_cons_succ, swp_seq, swp_reg, swp_skip, swp_block, swp_cond, seqK_n, condK_t, evK_some, appK_eq, srun_nil, srun_cons, sk_mv, sk_bin, sk_idxA, sk_lenL, get_mk, raw_slot, put_some, wb_nil, ev_mv, bin_lss, ro_int, List.map_cons, List.map_nil, List.getD_cons_zero, List.getD_cons_succ, List.set_cons_zero, List.set_cons_succ, List.length_cons, List.length_nil, List.replicate_succ, List.replicate_zero, List.cons_append, List.nil_append, Nat.reduceAdd, Nat.zero_add, List.length_append]
      apply swp_to
      · repeat' first
          | exact swp_ttI
          | refine swp_bothI ?_ ?_
          | (refine callK_intro (t16 (c := k) hkf (okSt_appL ho rfl)) ?_; rw [en])
          | exact ⟨rfl, rfl⟩
          | exact rfl
          | simp (maxSteps := 2000000) (disch := first | omega | (simp only [List.length_append, List.length_cons, List.length_nil, List.length_map] <;> omega)) only [ro2_agg, z2, Mf.none, Mf.cells, s3, getA, ev_ldA, List.drop_zero, List.take_succ_cons, List.take_zero, List.append_assoc, List.set_cons_zero, List.set_cons_succ, apO_some, flg_int, flg_agg, exc_bool, exc_int, exc_nilS, exc_agg, swp_seq, swp_reg, seqK_n, evK_some, appK_eq, appC_eq, srun_nil, srun_cons, stepK_call, sk_mv, sk_give, sk_load, sk_store, sk_alloc, sk_ext, get_mk, raw_slot, raw_lit, put_some, put_none, wb_nil, ev_mv, ev_give, ev_ext, ev_alloc, ro_int, ro_bool, ro_agg, ro_tup, ro1_int, ro1_nilS, ro2_int, got_int, got_bool, got_nilS, got_agg, pubs, pubsFrom, List.map_cons, List.map_nil, List.getD_cons_zero, List.getD_cons_succ, List.set_cons_zero, List.set_cons_succ, List.getElem?_cons_zero, List.getElem?_cons_succ, List.length_cons, List.length_nil, List.cons_append, List.nil_append, Nat.reduceAdd, true_and, Bool.false_eq_true, Option.map_some, ↓reduceIte, Nat.zero_add, List.length_append, Nat.le_refl]
      rcases e24 with e2 | e2
      · rw [e2]
        simp (maxSteps := 2000000) (disch := first | omega | (simp only [List.length_append, List.length_cons, List.length_nil, List.length_map] <;> omega)) only [nbI, getA, List.set_cons_zero, List.set_cons_succ, lpK_r, flg_bool, exc_bool, exc_int, swp_seq, swp_reg, swp_ret, swp_cond, seqK_n, seqK_r, blkK_r, condK_t, evK_some, appK_eq, grd_t, srun_nil, srun_cons, stepK_grd, fin_ret, sk_mv, sk_take, sk_give, sk_pick, sk_bin, sk_fld, sk_load, get_mk, raw_slot, raw_lit, put_some, wb_nil, ev_mv, ev_take, ev_give, ev_pick, ev_fld, bin_eql, bin_neq, ev_ldP, ldP_some, ro_int, ro_bool, got_int, got_bool, List.map_cons, List.map_nil, List.getD_cons_zero, List.getD_cons_succ, List.set_cons_zero, List.set_cons_succ, List.getElem?_cons_zero, List.getElem?_cons_succ, true_and, Bool.false_eq_true, Option.map_some, ↓reduceIte, Nat.zero_add, reduceCtorEq, Bool.not_false, beq_self_eq_true, Int.reduceBEq]
        first | exact ⟨_, trim1 ho rfl⟩ | exact ⟨_, trim1 ho rfl, rfl⟩ | exact ⟨_, trim1 ho rfl, rfl, rfl⟩ | exact ⟨_, trim1 ho rfl, by simp, rfl⟩ | exact ⟨_, trim1 ho rfl, by simp⟩
      · rw [e2]
        simp (maxSteps := 2000000) (disch := first | omega | (simp only [List.length_append, List.length_cons, List.length_nil, List.length_map] <;> omega)) only [nbI, getA, List.set_cons_zero, List.set_cons_succ, lpK_r, flg_bool, exc_bool, exc_int, swp_seq, swp_reg, swp_ret, swp_cond, seqK_n, seqK_r, blkK_r, condK_t, evK_some, appK_eq, grd_t, srun_nil, srun_cons, stepK_grd, fin_ret, sk_mv, sk_take, sk_give, sk_pick, sk_bin, sk_fld, sk_load, get_mk, raw_slot, raw_lit, put_some, wb_nil, ev_mv, ev_take, ev_give, ev_pick, ev_fld, bin_eql, bin_neq, ev_ldP, ldP_some, ro_int, ro_bool, got_int, got_bool, List.map_cons, List.map_nil, List.getD_cons_zero, List.getD_cons_succ, List.set_cons_zero, List.set_cons_succ, List.getElem?_cons_zero, List.getElem?_cons_succ, true_and, Bool.false_eq_true, Option.map_some, ↓reduceIte, Nat.zero_add, Bool.not_false, beq_self_eq_true, Int.reduceBEq]
        first | exact ⟨_, trim1 ho rfl⟩ | exact ⟨_, trim1 ho rfl, rfl⟩ | exact ⟨_, trim1 ho rfl, rfl, rfl⟩ | exact ⟨_, trim1 ho rfl, by simp, rfl⟩ | exact ⟨_, trim1 ho rfl, by simp⟩
    have e1' : nxtF k au t seen (0) .nilS [] = 0 := by simpa using e1
    obtain ⟨en, hr, hve, hne⟩ := nxt_ok e1'
    have hMf : (nxtM k au t seen (0) .nilS []).fit := by unfold nxtM Mf.fit; simp only; obtain ⟨⟨_, _⟩, _⟩ := hkf; omega
    have hrh := right_head hr
    have hau : 0 ≤ au ∧ au ≤ 1 := by
      have w : wth 1 au = true := hrh.1
      simpa only [wth, Bool.and_eq_true, decide_eq_true_eq] using w
    have hep : 0 ≤ k.ep ∧ k.ep ≤ 100 := by
      have w : wth 100 k.ep = true := hrh.2.2.2.2.1
      simpa only [wth, Bool.and_eq_true, decide_eq_true_eq] using w
    have x1 : accE k au (nxtM k au t seen (0) .nilS []) own = 0 := by
      rw [acc_nxt hr, eph]
      have : decide (k.ak ≤ seen) = true := by simpa using hka
      rw [this]; rfl
    have x1c : accC k au (nxtM k au t seen (0) .nilS []) (100 + (i : Int)) own = ⟨k.ve + 1, 100 + (i : Int), nxtE k t, seen⟩ := by unfold accC; rw [if_pos x1]; rfl
    have x2 : accE ⟨k.ve + 1, 100 + (i : Int), nxtE k t, seen⟩ au (nxtM k au t seen (0) .nilS []) own = 9 := acc_old hr rfl (Int.le_refl _)
    have x2c : accC ⟨k.ve + 1, 100 + (i : Int), nxtE k t, seen⟩ au (nxtM k au t seen (0) .nilS []) (100 + (i : Int)) own = ⟨k.ve + 1, 100 + (i : Int), nxtE k t, seen⟩ := by unfold accC; rw [if_neg (by rw [x2]; decide)]
    have x3 : accE k (au + 1) (nxtM k au t seen (0) .nilS []) own = 4 := acc_bad (by show au ≠ au + 1; omega)
    have x3c : accC k (au + 1) (nxtM k au t seen (0) .nilS []) (100 + (i : Int)) own = k := by unfold accC; rw [if_neg (by rw [x3]; decide)]
    have nf : Cu.fit ⟨k.ve + 1, 100 + (i : Int), nxtE k t, seen⟩ := by
      obtain ⟨⟨_, _⟩, _, _⟩ := hkf
      refine ⟨by simp only; omega, ?_⟩
      unfold nxtE; cases t <;> simp <;> omega
    have nt : (nxtE k t == k.ep + 1) = t := by
      unfold nxtE
      cases t
      · simp; omega
      · simp
    simp (maxSteps := 2000000) (disch := first | omega | (simp only [List.length_append, List.length_cons, List.length_nil, List.length_map] <;> omega)) only [hd, z1, tv1, tv5, List.set_cons_zero, List.set_cons_succ, swp_seq, swp_reg, swp_skip, swp_block, swp_cond, seqK_n, condK_t, evK_some, appK_eq, srun_nil, srun_cons, sk_mv, sk_bin, sk_idxA, sk_lenL, get_mk, raw_slot, put_some, wb_nil, ev_mv, bin_lss, ro_int, List.map_cons, List.map_nil, List.getD_cons_zero, List.getD_cons_succ, List.set_cons_zero, List.set_cons_succ, List.length_cons, List.length_nil, List.replicate_succ, List.replicate_zero, List.cons_append, List.nil_append, Nat.reduceAdd, Nat.zero_add, List.length_append]
    apply swp_to
    · repeat' first
        | exact swp_ttI
        | refine swp_bothI ?_ ?_
        | (refine callK_intro (t16 (c := k) hkf (okSt_appL ho rfl)) ?_; rw [en, e1'])
        | exact ⟨rfl, rfl⟩
        | exact rfl
        | simp (maxSteps := 2000000) (disch := first | omega | (simp only [List.length_append, List.length_cons, List.length_nil, List.length_map] <;> omega)) only [ro2_agg, z2, nxtM, Mf.cells, s3, getA, ev_ldA, List.drop_zero, List.take_succ_cons, List.take_zero, List.append_assoc, List.set_cons_zero, List.set_cons_succ, apO_some, flg_int, flg_agg, exc_bool, exc_int, exc_nilS, exc_agg, swp_seq, swp_reg, seqK_n, evK_some, appK_eq, appC_eq, srun_nil, srun_cons, stepK_call, sk_mv, sk_give, sk_load, sk_store, sk_alloc, sk_ext, get_mk, raw_slot, raw_lit, put_some, put_none, wb_nil, ev_mv, ev_give, ev_ext, ev_alloc, ro_int, ro_bool, ro_agg, ro_tup, ro1_int, ro1_nilS, ro2_int, got_int, got_bool, got_nilS, got_agg, pubs, pubsFrom, List.map_cons, List.map_nil, List.getD_cons_zero, List.getD_cons_succ, List.set_cons_zero, List.set_cons_succ, List.getElem?_cons_zero, List.getElem?_cons_succ, List.length_cons, List.length_nil, List.cons_append, List.nil_append, Nat.reduceAdd, true_and, Bool.false_eq_true, Option.map_some, ↓reduceIte, Nat.zero_add, List.length_append, Nat.le_refl]
    simp (maxSteps := 2000000) (disch := first | omega | (simp only [List.length_append, List.length_cons, List.length_nil, List.length_map] <;> omega)) only [u1, u2, u3, getA, ev_ldA, List.drop_zero, List.take_succ_cons, List.take_zero, List.set_cons_zero, List.set_cons_succ, apO_some, exc_int, exc_agg, swp_seq, swp_reg, swp_skip, swp_cond, seqK_n, condK_f, evK_some, appK_eq, srun_nil, srun_cons, stepK_call, sk_mv, sk_bin, sk_load, get_mk, raw_slot, raw_lit, put_some, wb_nil, ev_mv, bin_add, bin_neq, ro_int, ro_agg, ro1_int, ro1_nilS, got_int, got_agg, pubs, pubsFrom, List.map_cons, List.map_nil, List.getD_cons_zero, List.getD_cons_succ, List.set_cons_zero, List.set_cons_succ, List.getElem?_cons_zero, List.getElem?_cons_succ, List.length_cons, List.length_nil, Nat.reduceAdd, Bool.false_eq_true, ↓reduceIte, Nat.zero_add, bne_self_eq_false, wrap_i64, Nat.le_refl]
    refine callK_intro (t11 (c := k) (m := nxtM k au t seen (0) .nilS []) (nil_ok rfl rfl _) hMf (vk _) hl (okSt_appL ho rfl)) ?_
    rw [x1, x1c]
    simp (maxSteps := 2000000) (disch := first | omega | (simp only [List.length_append, List.length_cons, List.length_nil, List.length_map] <;> omega)) only [Cu.cells, s4, u1, u2, u3, getA, ev_ldA, List.drop_zero, List.take_succ_cons, List.take_zero, List.append_assoc, List.set_cons_zero, List.set_cons_succ, apO_some, flg_int, flg_agg, exc_int, exc_agg, swp_seq, swp_reg, seqK_n, evK_some, appK_eq, appC_eq, srun_nil, srun_cons, stepK_call, sk_mv, sk_give, sk_bin, sk_load, sk_store, sk_alloc, sk_ext, get_mk, raw_slot, raw_lit, put_some, put_none, wb_nil, ev_mv, ev_give, ev_ext, bin_add, ev_alloc, ro_int, ro_agg, ro_tup, ro1_int, ro1_nilS, ro2_int, got_int, got_agg, pubs, pubsFrom, List.map_cons, List.map_nil, List.getD_cons_zero, List.getD_cons_succ, List.set_cons_zero, List.set_cons_succ, List.getElem?_cons_zero, List.getElem?_cons_succ, List.length_cons, List.length_nil, List.cons_append, List.nil_append, Nat.reduceAdd, Bool.false_eq_true, Option.map_some, ↓reduceIte, Nat.zero_add, wrap_i64, List.length_append, Nat.le_refl]
    refine callK_intro (t11 (c := ⟨k.ve + 1, 100 + (i : Int), nxtE k t, seen⟩) (m := nxtM k au t seen (0) .nilS []) (nil_ok rfl rfl _) hMf (vk _) hl (okSt_appL ho rfl)) ?_
    rw [x2, x2c]
    simp (maxSteps := 2000000) (disch := first | omega | (simp only [List.length_append, List.length_cons, List.length_nil, List.length_map] <;> omega)) only [Cu.cells, s5, u1, u2, u3, getA, ev_ldA, List.drop_zero, List.take_succ_cons, List.take_zero, List.append_assoc, List.set_cons_zero, List.set_cons_succ, apO_some, flg_int, flg_agg, exc_int, exc_agg, swp_seq, swp_reg, seqK_n, evK_some, appK_eq, appC_eq, srun_nil, srun_cons, stepK_call, sk_mv, sk_give, sk_bin, sk_load, sk_store, sk_alloc, sk_ext, get_mk, raw_slot, raw_lit, put_some, put_none, wb_nil, ev_mv, ev_give, ev_ext, bin_add, ev_alloc, ro_int, ro_agg, ro_tup, ro1_int, ro1_nilS, ro2_int, got_int, got_agg, pubs, pubsFrom, List.map_cons, List.map_nil, List.getD_cons_zero, List.getD_cons_succ, List.set_cons_zero, List.set_cons_succ, List.getElem?_cons_zero, List.getElem?_cons_succ, List.length_cons, List.length_nil, List.cons_append, List.nil_append, Nat.reduceAdd, Bool.false_eq_true, Option.map_some, ↓reduceIte, Nat.zero_add, wrap_i64, List.length_append, Nat.le_refl]
    refine callK_intro (t11 (c := k) (m := nxtM k au t seen (0) .nilS []) (nil_ok rfl rfl _) hMf (vk _) hl (okSt_appL ho rfl)) ?_
    rw [x3, x3c]
    have hw : (t != t) = false := by simp
    simp (maxSteps := 2000000) (disch := first | omega | (simp only [List.length_append, List.length_cons, List.length_nil, List.length_map] <;> omega)) only [Cu.cells, nt, z1, z2, s6, s7, tv1, eq_four, getA, ev_ldA, List.drop_zero, List.take_succ_cons, List.take_zero, List.append_assoc, Nat.add_zero, List.set_cons_zero, List.set_cons_succ, lpK_n, apO_some, flg_int, flg_agg, exc_int, swp_seq, swp_reg, swp_skip, swp_cond, seqK_n, blkK_n, condK_f, evK_some, appK_eq, appC_eq, grd_t, srun_nil, srun_cons, stepK_grd, sk_mv, sk_take, sk_give, sk_pick, sk_bin, sk_eqB, sk_eqA, sk_fld, sk_idxA, sk_load, sk_store, sk_alloc, sk_ext, get_mk, raw_slot, raw_lit, put_some, put_none, wb_nil, ev_mv, ev_take, ev_give, ev_pick, ev_eqB, ev_fld, ev_ext, bin_add, bin_eql, bin_neq, ev_alloc, ev_ldP, ldP_some, ro_int, ro_bool, ro_agg, ro_tup, ro1_int, ro2_int, got_int, List.map_cons, List.map_nil, List.getD_cons_zero, List.getD_cons_succ, List.set_cons_zero, List.set_cons_succ, List.getElem?_cons_zero, List.getElem?_cons_succ, List.length_cons, List.length_nil, List.cons_append, List.nil_append, Nat.reduceAdd, Bool.false_eq_true, Option.map_some, ↓reduceIte, Bool.and_self, Nat.zero_add, Bool.not_true, beq_self_eq_true, bne_self_eq_false, wrap_i64, List.length_append, Nat.le_refl]
    refine ⟨_, Forget.cutA (l := [_, _, _]) (x := [_, _, _, _]) ?_ (by simp) ?_ (o3 ⟨k.ve + 1, 100 + (i : Int), nxtE k t, seen⟩), ⟨i + 1, ⟨k.ve + 1, 100 + (i : Int), nxtE k t, seen⟩, by omega, by simp only; omega, Int.le_refl _, nf, rfl⟩, by exact fin⟩
    · repeat first | exact fg_e | refine fg_d ?_ | refine fg_k rfl ?_
    · simp [idOks, idOk, i1, i2]
    
end Go.Sh.F
