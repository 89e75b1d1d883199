/-
  Seal, Open, Size, Name, in the shadow machine.
-/
import Derived.Test.YtmbaokfcdfhfeaaV3
set_option linter.unusedSimpArgs false
set_option linter.unusedVariables false
namespace Go.Sh.F
theorem set_same {st : List Ob} {i : Nat} {o : Ob} (h : st[i]? = some o) : st.set i o = st := by
  obtain ⟨hi, rfl⟩ := List.getElem?_eq_some_iff.1 h
  exact List.set_getElem_self hi
theorem ob_encS (k : Nat) (l : List (Int × Sd)) : obOk k (.map (encS l)) = true := by
  simp [obOk, encS, fS, idOk, idOks]
theorem ob_encN (k : Nat) (l : List ((Int × List UInt8) × Int)) : obOk k (.map (encN l)) = true := by
  simp [obOk, encN, eO, idOk, idOks]
theorem ob_encT (k : Nat) (l : List (Int × Bool)) : obOk k (.map (encT l)) = true := by
  simp [obOk, encT, idOk]
theorem trim_to {st x st' : List Ob} {vs : List SV} (h : okSt st') (hl : st'.length = st.length) (hx : x = st' ++ x.drop st.length) (hv : idOks st.length vs = true) : Trim st.length x st' vs := by
  refine .inr ⟨by omega, ?_, by rw [hl]; exact hv, h⟩
  rw [hx]; simp
theorem set_app {st x : List Ob} {m : Nat} {X : Ob} (hm : m < st.length) : (st ++ x).set m X = st.set m X ++ x := List.set_append_left m X hm
theorem trim_set {st x : List Ob} {vs : List SV} {m : Nat} {X : Ob} (h : okSt (st.set m X)) (hm : m < st.length) (hv : idOks st.length vs = true) : Trim st.length ((st ++ x).set m X) (st.set m X) vs := by
  rw [set_app hm]
  exact .inr ⟨by simp, by simp, by simpa using hv, h⟩
theorem l37 {f : FuncId} {a : List SV} {s s' : List Ob} {r : SV} (h : O37 f a s r s') : O42 f a s r s' := .inl (.inl (.inl (.inl (.inl h))))
theorem bk {st : List Ob} (h : okSt st) (n : Int) : O42 23 [.int .i64 n] st (.int .i64 (bucketF n)) st := l37 (.inl (.inl (.inl (.inr ⟨rfl, h, n, rfl, rfl, rfl⟩))))
theorem sz {st : List Ob} (h : okSt st) (n : Int) : O42 30 [.int .i64 n] st (.int .i64 (sizeF n)) st := l37 (.inl (.inl (.inr ⟨rfl, h, n, rfl, rfl, rfl⟩)))
def K24 : List SV → List Ob → SV → List Ob → Prop := fun args st r st' => ∃ m b V n, Vat st m V ∧ okSt st ∧ st[b]? = some (.cells [.ptr (m + 3) 0]) ∧ st' = st ∧
  ((V.s.length < 4294967296 ∧ args = [.int .i64 n, .fn 25 [] [.ptr b 0]] ∧ r = .int .i64 (drawF (isS V) V.s.length (maskF n))) ∨ (V.t.length < 4294967296 ∧ args = [.int .i64 n, .fn 28 [] [.ptr b 0]] ∧ r = .int .i64 (drawF (isT V) V.t.length (maskF n))))
def O43 : Orc := O42.add 24 K24
theorem s43 : Sound Proofs.Try.prog O43 := s42.add c24 (by kernel_rfl) (by
  rintro args st r st' ⟨m, b, V, n, h, ho, hb, rfl, ⟨hl, rfl, rfl⟩ | ⟨hl, rfl, rfl⟩⟩
  · exact ⟨by simp [sf24], k24 _ (fun x => .inl (.inr ⟨rfl, m, b, V, x, h, ho, hb, rfl, rfl, rfl⟩)) (isS_free V hl n)⟩
  · exact ⟨by simp [sf24], k24 _ (fun x => .inr ⟨rfl, m, b, V, x, h, hb, rfl, rfl, rfl⟩) (isT_free V hl n)⟩)
set_option maxHeartbeats 1000000 in
theorem k13 {st : List Ob} {m : Nat} {V : VS} (h : Vat st m V) (ho : okSt st) (hl : V.s.length < 4294967296) (key : Int) (ad plain : List UInt8) (nonce : Int) :
    swpF O43 sf13 [.ptr (m + 3) 0, .int .i64 key, .str ad, .str plain, .int .i64 nonce] st (fun r st' => r = .tup [.int .i64 (sealF V key ad plain nonce).1.1, .int .i64 (sealF V key ad plain nonce).1.2] ∧ st' = st.set m (.map (encS (sealF V key ad plain nonce).2.s))) := by
  have hm := (List.getElem?_eq_some_iff.1 h.s).1
  have hm3 := (List.getElem?_eq_some_iff.1 h.v).1
  have ho1 : okSt (st ++ [.cells [.ptr (m + 3) 0]]) := okSt_app ho (by simp [idOks, idOk]; omega)
  have hb : (st ++ [Ob.cells [.ptr (m + 3) 0]])[st.length]? = some (.cells [.ptr (m + 3) 0]) := get_end
  have h1 : Vat (st ++ [.cells [.ptr (m + 3) 0]]) m V := h.app
  have hsame := set_same h.s
  simp (maxSteps := 2000000) (disch := first | omega | (simp only [List.length_append, List.length_cons, List.length_nil, List.length_map] <;> omega)) only [sf13, flg_int, exc_int, exc_ptr, swp_seq, swp_reg, swp_block, seqK_n, evK_some, appK_eq, srun_nil, srun_cons, stepK_call, swpF_eq, sk_mv, sk_give, sk_lenS, sk_box, get_mk, raw_slot, raw_lit, put_some, wb_nil, ev_mv, ev_give, ev_lenS, ev_box, ro_int, ro_str, got_int, got_ptr, pubs, pubsFrom, List.map_cons, List.map_nil, List.getD_cons_zero, List.getD_cons_succ, List.set_cons_zero, List.set_cons_succ, List.length_cons, List.length_nil, List.replicate_succ, List.replicate_zero, List.cons_append, List.nil_append, Nat.reduceAdd, Nat.reduceSub, Bool.false_eq_true, ↓reduceIte, List.all_cons, List.all_nil, Bool.and_self, cellsV, isCell, Nat.zero_add]
  refine callK_intro (.inl (bk ho1 _)) ?_
  by_cases c0 : bucketF plain.length < 0
  · have d0 : decide (bucketF plain.length < 0) = true := by simp; omega
    have hr : sealF V key ad plain nonce = ((0, 5), V) := by unfold sealF; rw [if_pos c0]
    rw [hr, hsame]
    simp (maxSteps := 2000000) (disch := first | omega | (simp only [List.length_append, List.length_cons, List.length_nil, List.length_map] <;> omega)) only [d0, flg_bool, flg_int, swp_seq, swp_reg, swp_ret, swp_cond, seqK_n, seqK_r, blkK_r, condK_t, evK_some, appK_eq, appC_eq, srun_nil, srun_cons, fin_two, sk_give, sk_bin, get_mk, raw_slot, raw_lit, put_some, wb_nil, ev_give, bin_lss, ro_int, ro_bool, List.map_cons, List.map_nil, List.getD_cons_zero, List.getD_cons_succ, List.set_cons_zero, List.set_cons_succ, true_and, Bool.false_eq_true, ↓reduceIte]
    exact ⟨st, trim1 ho rfl, rfl⟩
  have d0 : decide (bucketF plain.length < 0) = false := by simp; omega
  by_cases c1 : 16384 ≤ V.s.length
  · have d1 : decide ((16384 : Int) ≤ (V.s.length : Int)) = true := by simp; omega
    have hr : sealF V key ad plain nonce = ((0, 2), V) := by unfold sealF; rw [if_neg c0, if_pos c1]
    rw [hr, hsame]
    simp (maxSteps := 2000000) (disch := first | omega | (simp only [List.length_append, List.length_cons, List.length_nil, List.length_map] <;> omega)) only [d0, d1, hb, h1.v, h1.s, enc_lenS, apM_some, ev_lenMp, flg_bool, flg_int, swp_seq, swp_reg, swp_ret, swp_cond, seqK_n, seqK_r, blkK_r, condK_t, condK_f, evK_some, appK_eq, appC_eq, srun_nil, srun_cons, fin_two, sk_give, sk_bin, sk_nilc, sk_fld, sk_load, sk_lenM, get_mk, raw_slot, raw_lit, put_some, wb_nil, ev_give, ev_nilc, ev_fld, bin_lss, bin_geq, ev_ldP, ldP_some, ro_int, ro_bool, ro_ptr, ro_mp, List.map_cons, List.map_nil, List.getD_cons_zero, List.getD_cons_succ, List.set_cons_zero, List.set_cons_succ, List.getElem?_cons_zero, true_and, Bool.false_eq_true, Option.map_some, ↓reduceIte, Nat.zero_add, ge_iff_le]
    exact ⟨st, trim1 ho rfl, rfl⟩
  have d1 : decide ((16384 : Int) ≤ (V.s.length : Int)) = false := by simp; omega
  obtain ⟨n, hn⟩ : ∃ n, n = drawF (isS V) V.s.length (maskF nonce) := ⟨_, rfl⟩
  have hr : sealF V key ad plain nonce = ((n, 0), { V with s := mput n (key, ad, plain) V.s }) := by unfold sealF; rw [if_neg c0, if_neg c1, hn]
  rw [hr]
  have hc : O43 24 [.int .i64 nonce, .fn 25 [] [.ptr st.length 0]] (st ++ [.cells [.ptr (m + 3) 0]]) (.int .i64 n) (st ++ [.cells [.ptr (m + 3) 0]]) := .inr ⟨rfl, m, st.length, V, nonce, h1, ho1, hb, rfl, .inl ⟨hl, rfl, by rw [hn]⟩⟩
  have hu := upS V.s n key ad plain
  simp (maxSteps := 2000000) (disch := first | omega | (simp only [List.length_append, List.length_cons, List.length_nil, List.length_map] <;> omega)) only [d0, d1, hb, h1.v, h1.s, enc_lenS, show ∀ s i, ev s (.mfn 25 0 1) [.ptr i 0] = some (.fn 25 [] [.ptr i 0], [], s) from fun _ _ => rfl, apM_some, ev_lenMp, flg_bool, exc_int, exc_fn, swp_seq, swp_reg, swp_skip, swp_cond, seqK_n, blkK_n, condK_f, evK_some, appK_eq, appC_eq, srun_nil, srun_cons, stepK_call, sk_mv, sk_give, sk_bin, sk_nilc, sk_fld, sk_load, sk_lenM, sk_mfn, get_mk, raw_slot, raw_lit, put_some, wb_nil, ev_mv, ev_give, ev_nilc, ev_fld, bin_lss, bin_geq, ev_ldP, ldP_some, ro_int, ro_bool, ro_ptr, ro_mp, got_int, got_fn, pubs, pubsFrom, List.map_cons, List.map_nil, List.getD_cons_zero, List.getD_cons_succ, List.set_cons_zero, List.set_cons_succ, List.getElem?_cons_zero, Bool.false_eq_true, Option.map_some, ↓reduceIte, Nat.zero_add, ge_iff_le]
  refine callK_intro hc ?_
  simp (maxSteps := 2000000) (disch := first | omega | (simp only [List.length_append, List.length_cons, List.length_nil, List.length_map] <;> omega)) only [hb, h1.v, h1.s, hu, sk_upd, apM_some, ev_upd, flg_int, exc_int, exc_str, exc_agg, swp_seq, swp_reg, swp_ret, seqK_n, evK_some, appK_eq, appC_eq, srun_nil, srun_cons, fin_two, sk_mv, sk_give, sk_nilc, sk_fld, sk_load, sk_bld, get_mk, raw_slot, raw_lit, put_some, put_none, wb_nil, ev_mv, ev_give, ev_nilc, ev_fld, ev_bld, ev_ldP, ldP_some, ro_int, ro_str, ro_ptr, ro_mp, ro_agg, ro1_int, ro1_str, got_int, got_str, got_agg, pubs, pubsFrom, List.map_cons, List.map_nil, List.getD_cons_zero, List.getD_cons_succ, List.set_cons_zero, List.set_cons_succ, List.getElem?_cons_zero, List.length_cons, List.length_nil, Nat.reduceAdd, Nat.reduceLeDiff, true_and, and_true, Bool.false_eq_true, Option.map_some, ↓reduceIte, List.all_cons, List.all_nil, Bool.and_self, List.zip_cons_cons, List.zip_nil_right, fillV, wrCells, cellsV, isCell, Nat.zero_add, Nat.le_refl]
  exact ⟨st.set m (.map (encS (mput n (key, ad, plain) V.s))), trim_set (okSt_set ho (ob_encS _ _)) hm rfl, rfl⟩
theorem k15 (O : Orc) {st : List Ob} {m : Nat} {V : VS} (h : Vat st m V) (ho : okSt st) (key : Int) (ad : List UInt8) (x : Int) :
    swpF O sf15 [.ptr (m + 3) 0, .int .i64 key, .str ad, .int .i64 x] st (fun r st' => r = .tup [.str (openF V key ad x).1, .int .i64 (openF V key ad x).2] ∧ st' = st) := by
  have e := lkS V.s x
  unfold openF
  cases hm : mget x V.s with
  | none =>
    rw [hm] at e
    have hst := st_agg (st := st ++ [.cells [.int .i64 0, .str [], .str []]]) (b := true) get_end (show [SV.int .i64 0, .str [], .str []].all plainV = true from rfl) (n := 3) rfl rfl
    rw [set_end] at hst
    simp (maxSteps := 2000000) (disch := first | omega | (simp only [List.length_append, List.length_cons, List.length_nil, List.length_map] <;> omega)) only [sf15, h.v, h.s, e, zS, Option.map_none, Option.getD_none, Option.isSome_none, hst, sk_lkp, apM_some, ev_lkp, flg_bool, flg_int, flg_str, flg_agg, swp_seq, swp_reg, swp_ret, swp_cond, seqK_n, seqK_r, condK_t, evK_some, appK_eq, grd_t, srun_nil, srun_cons, stepK_grd, fin_two, swpF_eq, sk_mv, sk_give, sk_pick, sk_un, sk_nilc, sk_fld, sk_load, sk_store, sk_alloc, sk_ext, get_mk, raw_slot, raw_lit, put_some, put_none, wb_nil, ev_mv, ev_give, ev_pick, ev_not, ev_nilc, ev_fld, ev_ext, ev_alloc, ev_ldP, ldP_some, ro_int, ro_bool, ro_str, ro_ptr, ro_mp, ro_agg, ro_tup, ro1_int, ro1_str, ro2_bool, List.map_cons, List.map_nil, List.getD_cons_zero, List.getD_cons_succ, List.set_cons_zero, List.set_cons_succ, List.getElem?_cons_zero, List.getElem?_cons_succ, List.length_cons, List.length_nil, List.replicate_succ, List.replicate_zero, List.cons_append, List.nil_append, Nat.reduceAdd, Nat.reduceSub, true_and, Bool.false_eq_true, Option.map_some, ↓reduceIte, Nat.zero_add, reduceCtorEq, Bool.not_false]
    exact ⟨st, trim1 ho rfl, rfl⟩
  | some d =>
    rw [hm] at e
    have hst := st_agg (st := st ++ [.cells [.int .i64 0, .str [], .str []]]) (b := true) get_end (show [SV.int .i64 d.1, .str d.2.1, .str d.2.2].all plainV = true from rfl) (n := 3) rfl rfl
    rw [set_end] at hst
    have hge : (st ++ [Ob.cells [.int .i64 d.1, .str d.2.1, .str d.2.2]])[st.length]? = some (.cells [.int .i64 d.1, .str d.2.1, .str d.2.2]) := get_end
    by_cases c1 : (d.1 == key) = true
    · by_cases c2 : (d.2.1 == ad) = true
      · simp only [c1, c2, Bool.and_self, if_true]
        simp (maxSteps := 2000000) (disch := first | omega | (simp only [List.length_append, List.length_cons, List.length_nil, List.length_map] <;> omega)) only [sf15, h.v, h.s, e, fS, Option.map_some, Option.getD_some, Option.isSome_some, hst, hge, ev_ldA, List.drop_zero, List.take_succ_cons, List.take_zero, eqKs_i, eqKs_s, eqKs_nil, c1, c2, sk_lkp, ev_eqA, apM_some, ev_lkp, apO_some, flg_bool, flg_int, flg_str, flg_agg, exc_int, exc_str, swp_seq, swp_reg, swp_skip, swp_ret, swp_cond, seqK_n, condK_f, evK_some, appK_eq, grd_t, srun_nil, srun_cons, stepK_grd, fin_two, swpF_eq, sk_mv, sk_take, sk_give, sk_pick, sk_eqA, sk_un, sk_nilc, sk_fld, sk_load, sk_store, sk_bld, sk_alloc, sk_ext, get_mk, raw_slot, raw_lit, put_some, put_none, wb_nil, ev_mv, ev_take, ev_give, ev_pick, ev_not, ev_nilc, ev_fld, ev_ext, ev_bld, ev_alloc, ev_ldP, ldP_some, ro_int, ro_bool, ro_str, ro_ptr, ro_mp, ro_agg, ro_tup, ro1_int, ro1_str, ro2_bool, got_int, got_str, pubs, pubsFrom, List.map_cons, List.map_nil, List.getD_cons_zero, List.getD_cons_succ, List.set_cons_zero, List.set_cons_succ, List.getElem?_cons_zero, List.getElem?_cons_succ, List.length_cons, List.length_nil, List.replicate_succ, List.replicate_zero, List.cons_append, List.nil_append, Nat.reduceAdd, Nat.reduceSub, Nat.reduceLeDiff, true_and, and_true, Bool.false_eq_true, Option.map_some, ↓reduceIte, List.all_cons, List.all_nil, Bool.and_self, List.zip_cons_cons, List.zip_nil_right, fillV, wrCells, cellsV, isCell, Nat.zero_add, Bool.not_true, Nat.le_refl]
        exact ⟨st, trim1 ho rfl, rfl⟩
      · simp only [Bool.not_eq_true] at c2
        simp only [c1, c2, Bool.and_false, Bool.false_eq_true, if_false]
        simp (maxSteps := 2000000) (disch := first | omega | (simp only [List.length_append, List.length_cons, List.length_nil, List.length_map] <;> omega)) only [sf15, h.v, h.s, e, fS, Option.map_some, Option.getD_some, Option.isSome_some, hst, hge, ev_ldA, List.drop_zero, List.take_succ_cons, List.take_zero, eqKs_i, eqKs_s, c1, c2, sk_lkp, ev_eqA, apM_some, ev_lkp, apO_some, flg_bool, flg_int, flg_str, flg_agg, exc_int, exc_str, swp_seq, swp_reg, swp_ret, swp_cond, seqK_n, seqK_r, condK_t, evK_some, appK_eq, grd_t, srun_nil, srun_cons, stepK_grd, fin_two, swpF_eq, sk_mv, sk_take, sk_give, sk_pick, sk_eqA, sk_un, sk_nilc, sk_fld, sk_load, sk_store, sk_bld, sk_alloc, sk_ext, get_mk, raw_slot, raw_lit, put_some, put_none, wb_nil, ev_mv, ev_take, ev_give, ev_pick, ev_not, ev_nilc, ev_fld, ev_ext, ev_bld, ev_alloc, ev_ldP, ldP_some, ro_int, ro_bool, ro_str, ro_ptr, ro_mp, ro_agg, ro_tup, ro1_int, ro1_str, ro2_bool, got_int, got_str, pubs, pubsFrom, List.map_cons, List.map_nil, List.getD_cons_zero, List.getD_cons_succ, List.set_cons_zero, List.set_cons_succ, List.getElem?_cons_zero, List.getElem?_cons_succ, List.length_cons, List.length_nil, List.replicate_succ, List.replicate_zero, List.cons_append, List.nil_append, Nat.reduceAdd, Nat.reduceSub, Nat.reduceLeDiff, true_and, and_true, Bool.false_eq_true, Option.map_some, ↓reduceIte, List.all_cons, List.all_nil, Bool.and_self, List.zip_cons_cons, List.zip_nil_right, fillV, wrCells, cellsV, isCell, Nat.zero_add, Bool.not_true, Bool.not_false, Nat.le_refl]
        exact ⟨st, trim1 ho rfl, rfl⟩
    · simp only [Bool.not_eq_true] at c1
      simp only [c1, Bool.false_and, Bool.false_eq_true, if_false]
      simp (maxSteps := 2000000) (disch := first | omega | (simp only [List.length_append, List.length_cons, List.length_nil, List.length_map] <;> omega)) only [sf15, h.v, h.s, e, fS, Option.map_some, Option.getD_some, Option.isSome_some, hst, hge, ev_ldA, List.drop_zero, List.take_succ_cons, List.take_zero, eqKs_i, c1, sk_lkp, ev_eqA, apM_some, ev_lkp, apO_some, flg_bool, flg_int, flg_str, flg_agg, exc_int, exc_str, swp_seq, swp_reg, swp_ret, swp_cond, seqK_n, seqK_r, condK_t, evK_some, appK_eq, grd_t, srun_nil, srun_cons, stepK_grd, fin_two, swpF_eq, sk_mv, sk_take, sk_give, sk_pick, sk_eqA, sk_un, sk_nilc, sk_fld, sk_load, sk_store, sk_bld, sk_alloc, sk_ext, get_mk, raw_slot, raw_lit, put_some, put_none, wb_nil, ev_mv, ev_take, ev_give, ev_pick, ev_not, ev_nilc, ev_fld, ev_ext, ev_bld, ev_alloc, ev_ldP, ldP_some, ro_int, ro_bool, ro_str, ro_ptr, ro_mp, ro_agg, ro_tup, ro1_int, ro1_str, ro2_bool, got_int, got_str, pubs, pubsFrom, List.map_cons, List.map_nil, List.getD_cons_zero, List.getD_cons_succ, List.set_cons_zero, List.set_cons_succ, List.getElem?_cons_zero, List.getElem?_cons_succ, List.length_cons, List.length_nil, List.replicate_succ, List.replicate_zero, List.cons_append, List.nil_append, Nat.reduceAdd, Nat.reduceSub, Nat.reduceLeDiff, true_and, and_true, Bool.false_eq_true, Option.map_some, ↓reduceIte, List.all_cons, List.all_nil, Bool.and_self, List.zip_cons_cons, List.zip_nil_right, fillV, wrCells, cellsV, isCell, Nat.zero_add, Bool.not_true, Bool.not_false, Nat.le_refl]
      exact ⟨st, trim1 ho rfl, rfl⟩
theorem k19 {st : List Ob} {m : Nat} {V : VS} (h : Vat st m V) (ho : okSt st) (x : Int) :
    swpF O43 sf19 [.ptr (m + 3) 0, .int .i64 x] st (fun r st' => r = .int .i64 (szF V x) ∧ st' = st) := by
  have e := lkS V.s x
  unfold szF
  cases hm : mget x V.s with
  | none =>
    rw [hm] at e
    have hst := st_agg (st := st ++ [.cells [.int .i64 0, .str [], .str []]]) (b := true) get_end (show [SV.int .i64 0, .str [], .str []].all plainV = true from rfl) (n := 3) rfl rfl
    rw [set_end] at hst
    simp (maxSteps := 2000000) (disch := first | omega | (simp only [List.length_append, List.length_cons, List.length_nil, List.length_map] <;> omega)) only [sf19, h.v, h.s, e, zS, Option.map_none, Option.getD_none, Option.isSome_none, hst, sk_lkp, apM_some, ev_lkp, flg_bool, flg_int, flg_agg, swp_seq, swp_reg, swp_ret, swp_cond, seqK_n, seqK_r, condK_t, evK_some, appK_eq, srun_nil, srun_cons, fin_ret, swpF_eq, sk_mv, sk_give, sk_un, sk_nilc, sk_fld, sk_load, sk_store, sk_alloc, sk_ext, get_mk, raw_slot, raw_lit, put_some, put_none, wb_nil, ev_mv, ev_give, ev_not, ev_nilc, ev_fld, ev_ext, ev_alloc, ev_ldP, ldP_some, ro_int, ro_bool, ro_ptr, ro_mp, ro_agg, ro_tup, ro1_int, ro1_str, ro2_bool, List.map_cons, List.map_nil, List.getD_cons_zero, List.getD_cons_succ, List.set_cons_zero, List.set_cons_succ, List.getElem?_cons_zero, List.getElem?_cons_succ, List.length_cons, List.length_nil, List.replicate_succ, List.replicate_zero, List.cons_append, List.nil_append, Nat.reduceAdd, Nat.reduceSub, true_and, Bool.false_eq_true, Option.map_some, ↓reduceIte, Nat.zero_add, Bool.not_false]
    exact ⟨st, trim1 ho rfl, rfl⟩
  | some d =>
    rw [hm] at e
    have hst := st_agg (st := st ++ [.cells [.int .i64 0, .str [], .str []]]) (b := true) get_end (show [SV.int .i64 d.1, .str d.2.1, .str d.2.2].all plainV = true from rfl) (n := 3) rfl rfl
    rw [set_end] at hst
    have hge : (st ++ [Ob.cells [.int .i64 d.1, .str d.2.1, .str d.2.2]])[st.length]? = some (.cells [.int .i64 d.1, .str d.2.1, .str d.2.2]) := get_end
    have ho1 : okSt (st ++ [Ob.cells [.int .i64 d.1, .str d.2.1, .str d.2.2]]) := okSt_app ho rfl
    simp (maxSteps := 2000000) (disch := first | omega | (simp only [List.length_append, List.length_cons, List.length_nil, List.length_map] <;> omega)) only [sf19, h.v, h.s, e, fS, Option.map_some, Option.getD_some, Option.isSome_some, hst, hge, sk_lkp, apM_some, ev_lkp, flg_bool, flg_int, flg_agg, exc_int, swp_seq, swp_reg, swp_skip, swp_cond, seqK_n, condK_f, evK_some, appK_eq, srun_nil, srun_cons, stepK_call, swpF_eq, sk_mv, sk_give, sk_un, sk_nilc, sk_fld, sk_load, sk_store, sk_lenS, sk_alloc, sk_ext, get_mk, raw_slot, raw_lit, put_some, put_none, wb_nil, ev_mv, ev_give, ev_not, ev_nilc, ev_fld, ev_lenS, ev_ext, ev_alloc, ev_ldP, ldP_some, ro_int, ro_bool, ro_str, ro_ptr, ro_mp, ro_agg, ro_tup, ro1_int, ro1_str, ro2_bool, got_int, pubs, pubsFrom, List.map_cons, List.map_nil, List.getD_cons_zero, List.getD_cons_succ, List.set_cons_zero, List.set_cons_succ, List.getElem?_cons_zero, List.getElem?_cons_succ, List.length_cons, List.length_nil, List.replicate_succ, List.replicate_zero, List.cons_append, List.nil_append, Nat.reduceAdd, Nat.reduceSub, Bool.false_eq_true, Option.map_some, ↓reduceIte, Nat.zero_add, Bool.not_true]
    refine callK_intro (.inl (bk ho1 _)) ?_
    simp (maxSteps := 2000000) (disch := first | omega | (simp only [List.length_append, List.length_cons, List.length_nil, List.length_map] <;> omega)) only [exc_int, appC_eq, srun_cons, stepK_call, get_mk, raw_slot, put_some, wb_nil, got_int, pubs, pubsFrom, List.map_cons, List.map_nil, List.getD_cons_zero, List.getD_cons_succ, List.set_cons_zero, List.set_cons_succ, Bool.false_eq_true, ↓reduceIte]
    refine callK_intro (.inl (sz ho1 _)) ?_
    simp (maxSteps := 2000000) (disch := first | omega | (simp only [List.length_append, List.length_cons, List.length_nil, List.length_map] <;> omega)) only [flg_int, swp_ret, seqK_n, evK_some, appK_eq, appC_eq, srun_nil, srun_cons, fin_ret, sk_give, get_mk, raw_slot, put_some, wb_nil, ev_give, ro_int, List.map_cons, List.map_nil, List.getD_cons_zero, List.getD_cons_succ, List.set_cons_zero, List.set_cons_succ, true_and, Bool.false_eq_true, ↓reduceIte]
    exact ⟨st, trim1 ho rfl, rfl⟩
set_option maxHeartbeats 2000000 in
theorem k17 {st : List Ob} {m : Nat} {V : VS} (h : Vat st m V) (ho : okSt st) (hl : V.t.length < 4294967296) (key : Int) (label : List UInt8) (nonce : Int) :
    swpF O43 sf17 [.ptr (m + 3) 0, .int .i64 key, .str label, .int .i64 nonce] st (fun r st' => r = .tup [.int .i64 (nameF V key label nonce).1.1, .int .i64 (nameF V key label nonce).1.2] ∧ st' = (st.set (m + 1) (.map (encN (nameF V key label nonce).2.n))).set (m + 2) (.map (encT (nameF V key label nonce).2.t))) := by
  have hm1 := (List.getElem?_eq_some_iff.1 h.n).1
  have hm2 := (List.getElem?_eq_some_iff.1 h.t).1
  have hm3 := (List.getElem?_eq_some_iff.1 h.v).1
  have hsame : (st.set (m + 1) (.map (encN V.n))).set (m + 2) (.map (encT V.t)) = st := by rw [set_same h.n, set_same h.t]
  obtain ⟨A, hA⟩ : ∃ A, A = Ob.cells [.ptr (m + 3) 0] := ⟨_, rfl⟩
  obtain ⟨C, hC⟩ : ∃ C, C = Ob.cells [.int .i64 key, .str label] := ⟨_, rfl⟩
  have ho2 : okSt ((st ++ [A]) ++ [C]) := by
    rw [hA, hC]
    exact okSt_app (okSt_app ho (by simp [idOks, idOk]; omega)) rfl
  have hst := st_agg (st := (st ++ [A]) ++ [.cells [.int .i64 0, .str []]]) (i := st.length + 1) (b := true) (by rw [show st.length + 1 = (st ++ [A]).length by simp]; exact get_end) (show [SV.int .i64 key, .str label].all plainV = true from rfl) (n := 2) rfl rfl
  rw [show (st ++ [A] ++ [Ob.cells [.int .i64 0, .str []]]).set (st.length + 1) (.cells [.int .i64 key, .str label]) = (st ++ [A]) ++ [C] by rw [show st.length + 1 = (st ++ [A]).length by simp, set_end, hC]] at hst
  have hb : ((st ++ [A]) ++ [C])[st.length]? = some (.cells [.ptr (m + 3) 0]) := by rw [← hA]; exact get_app get_end
  have hc : ((st ++ [A]) ++ [C])[st.length + 1]? = some (.cells [.int .i64 key, .str label]) := by rw [← hC, show st.length + 1 = (st ++ [A]).length by simp]; exact get_end
  have h1 : Vat ((st ++ [A]) ++ [C]) m V := h.app.app
  have hall : (st ++ [A]) ++ [C] = st ++ [A, C] := by simp
  have e := lkN V.n key label
  simp (maxSteps := 2000000) (disch := first | omega | (simp only [List.length_append, List.length_cons, List.length_nil, List.length_map] <;> omega)) only [sf17, flg_int, exc_int, exc_str, exc_ptr, swp_seq, swp_reg, seqK_n, evK_some, appK_eq, srun_nil, srun_cons, swpF_eq, sk_mv, sk_give, sk_store, sk_bld, sk_box, sk_alloc, get_mk, raw_slot, raw_lit, put_some, wb_nil, ev_mv, ev_give, ev_bld, ev_box, ev_alloc, ro_int, ro_str, got_int, got_str, got_ptr, pubs, pubsFrom, List.map_cons, List.map_nil, List.getD_cons_zero, List.getD_cons_succ, List.set_cons_zero, List.set_cons_succ, List.length_cons, List.length_nil, List.replicate_succ, List.replicate_zero, List.cons_append, List.nil_append, Nat.reduceAdd, Nat.reduceSub, Nat.reduceLeDiff, and_true, Bool.false_eq_true, Option.map_some, ↓reduceIte, List.all_cons, List.all_nil, Bool.and_self, List.zip_cons_cons, List.zip_nil_right, fillV, wrCells, cellsV, isCell, Nat.zero_add, List.length_append, Nat.le_refl]
  rw [← hA]
  simp (maxSteps := 2000000) (disch := first | omega | (simp only [List.length_append, List.length_cons, List.length_nil, List.length_map] <;> omega)) only [hst, swp_seq, swp_reg, seqK_n, evK_some, appK_eq, srun_nil, srun_cons, sk_load, get_mk, raw_slot, put_none, wb_nil, ev_ldP, List.map_cons, List.map_nil, List.getD_cons_zero, List.getD_cons_succ]
  obtain ⟨s2, hs2⟩ : ∃ s2, s2 = (st ++ [A]) ++ [C] := ⟨_, rfl⟩
  rw [← hs2] at hb hc h1 ho2 ⊢
  cases hm : mget (key, label) V.n with
  | some n =>
    rw [hm] at e
    have hr : nameF V key label nonce = ((n, 0), V) := by unfold nameF; rw [hm]
    rw [hr, hsame]
    simp (maxSteps := 2000000) (disch := first | omega | (simp only [List.length_append, List.length_cons, List.length_nil, List.length_map] <;> omega)) only [hb, hc, h1.v, h1.n, ev_ldA, List.drop_zero, List.take_succ_cons, List.take_zero, e, Option.map_some, Option.getD_some, Option.isSome_some, sk_lkp, apM_some, ev_lkp, apO_some, seqK_n, evK_some, appK_eq, srun_nil, srun_cons, sk_mv, sk_nilc, sk_fld, sk_load, get_mk, raw_slot, put_some, wb_nil, ev_mv, ev_nilc, ev_fld, ev_ldP, ldP_some, ro_ptr, ro_mp, ro_agg, ro_tup, ro1_int, ro1_str, ro2_int, ro2_bool, List.map_cons, List.map_nil, List.getD_cons_zero, List.getD_cons_succ, List.set_cons_zero, List.set_cons_succ, List.getElem?_cons_zero, List.getElem?_cons_succ, List.length_cons, List.length_nil, Nat.reduceAdd, Option.map_some, ↓reduceIte, Nat.zero_add, Nat.le_refl]
    apply swp_to
    · repeat' first | exact swp_ttI | refine swp_bothI ?_ ?_ | exact ⟨rfl, rfl⟩ | exact rfl | simp (maxSteps := 2000000) (disch := first | omega | (simp only [List.length_append, List.length_cons, List.length_nil, List.length_map] <;> omega)) only [flg_bool, flg_int, swp_reg, evK_some, appK_eq, srun_nil, srun_cons, sk_give, sk_ext, get_mk, raw_slot, put_some, wb_nil, ev_give, ev_ext, ro_int, ro_bool, List.map_cons, List.map_nil, List.getD_cons_zero, List.getD_cons_succ, List.set_cons_zero, List.set_cons_succ, List.getElem?_cons_zero, List.getElem?_cons_succ, true_and, Bool.false_eq_true, Option.map_some, ↓reduceIte]
    simp (maxSteps := 2000000) (disch := first | omega | (simp only [List.length_append, List.length_cons, List.length_nil, List.length_map] <;> omega)) only [flg_int, swp_seq, swp_reg, swp_ret, swp_cond, seqK_n, seqK_r, condK_t, evK_some, appK_eq, srun_nil, srun_cons, fin_two, sk_mv, sk_give, get_mk, raw_slot, raw_lit, put_some, wb_nil, ev_mv, ev_give, ro_int, ro_bool, List.map_cons, List.map_nil, List.getD_cons_zero, List.getD_cons_succ, List.set_cons_zero, List.set_cons_succ, true_and, Bool.false_eq_true, ↓reduceIte]
    exact ⟨st, by rw [hs2, hall]; exact trim1 ho rfl, rfl⟩
  | none =>
    rw [hm] at e
    simp (maxSteps := 2000000) (disch := first | omega | (simp only [List.length_append, List.length_cons, List.length_nil, List.length_map] <;> omega)) only [hb, hc, h1.v, h1.n, ev_ldA, List.drop_zero, List.take_succ_cons, List.take_zero, e, Option.map_none, Option.getD_none, Option.isSome_none, sk_lkp, apM_some, ev_lkp, apO_some, seqK_n, evK_some, appK_eq, srun_nil, srun_cons, sk_mv, sk_nilc, sk_fld, sk_load, get_mk, raw_slot, put_some, wb_nil, ev_mv, ev_nilc, ev_fld, ev_ldP, ldP_some, ro_ptr, ro_mp, ro_agg, ro_tup, ro1_int, ro1_str, ro2_int, ro2_bool, List.map_cons, List.map_nil, List.getD_cons_zero, List.getD_cons_succ, List.set_cons_zero, List.set_cons_succ, List.getElem?_cons_zero, List.getElem?_cons_succ, List.length_cons, List.length_nil, Nat.reduceAdd, Option.map_some, ↓reduceIte, Nat.zero_add, Nat.le_refl]
    apply swp_to
    · repeat' first | exact swp_ttI | refine swp_bothI ?_ ?_ | exact ⟨rfl, rfl⟩ | exact rfl | simp (maxSteps := 2000000) (disch := first | omega | (simp only [List.length_append, List.length_cons, List.length_nil, List.length_map] <;> omega)) only [flg_bool, flg_int, swp_reg, evK_some, appK_eq, srun_nil, srun_cons, sk_give, sk_ext, get_mk, raw_slot, put_some, wb_nil, ev_give, ev_ext, ro_int, ro_bool, List.map_cons, List.map_nil, List.getD_cons_zero, List.getD_cons_succ, List.set_cons_zero, List.set_cons_succ, List.getElem?_cons_zero, List.getElem?_cons_succ, true_and, Bool.false_eq_true, Option.map_some, ↓reduceIte]
    by_cases c1 : 16384 ≤ V.n.length
    · have d1 : decide ((16384 : Int) ≤ (V.n.length : Int)) = true := by simp; omega
      have hr : nameF V key label nonce = ((0, 2), V) := by unfold nameF; rw [hm]; simp only; rw [if_pos c1]
      rw [hr, hsame]
      simp (maxSteps := 2000000) (disch := first | omega | (simp only [List.length_append, List.length_cons, List.length_nil, List.length_map] <;> omega)) only [d1, hb, h1.v, h1.n, enc_lenN, apM_some, ev_lenMp, flg_int, swp_seq, swp_reg, swp_skip, swp_ret, swp_cond, seqK_n, seqK_r, condK_t, condK_f, evK_some, appK_eq, srun_nil, srun_cons, fin_two, sk_mv, sk_give, sk_bin, sk_nilc, sk_fld, sk_load, sk_lenM, get_mk, raw_slot, raw_lit, put_some, wb_nil, ev_mv, ev_give, ev_nilc, ev_fld, bin_geq, ev_ldP, ldP_some, ro_int, ro_bool, ro_ptr, ro_mp, List.map_cons, List.map_nil, List.getD_cons_zero, List.getD_cons_succ, List.set_cons_zero, List.set_cons_succ, List.getElem?_cons_zero, List.getElem?_cons_succ, true_and, Bool.false_eq_true, Option.map_some, ↓reduceIte, Nat.zero_add, ge_iff_le]
      exact ⟨st, by rw [hs2, hall]; exact trim1 ho rfl, rfl⟩
    have d1 : decide ((16384 : Int) ≤ (V.n.length : Int)) = false := by simp; omega
    obtain ⟨n, hn⟩ : ∃ n, n = drawF (isT V) V.t.length (maskF nonce) := ⟨_, rfl⟩
    have hr : nameF V key label nonce = ((n, 0), { V with n := mput (key, label) n V.n, t := mput n true V.t }) := by unfold nameF; rw [hm]; simp only; rw [if_neg c1, hn]
    rw [hr]
    have hd : O43 24 [.int .i64 nonce, .fn 28 [] [.ptr st.length 0]] s2 (.int .i64 n) s2 := .inr ⟨rfl, m, st.length, V, nonce, h1, ho2, hb, rfl, .inr ⟨hl, rfl, by rw [hn]⟩⟩
    simp (maxSteps := 2000000) (disch := first | omega | (simp only [List.length_append, List.length_cons, List.length_nil, List.length_map] <;> omega)) only [d1, hb, h1.v, h1.n, enc_lenN, show ∀ s i, ev s (.mfn 28 0 1) [.ptr i 0] = some (.fn 28 [] [.ptr i 0], [], s) from fun _ _ => rfl, apM_some, ev_lenMp, exc_int, exc_fn, swp_seq, swp_reg, swp_skip, swp_cond, seqK_n, condK_f, evK_some, appK_eq, srun_nil, srun_cons, stepK_call, sk_mv, sk_bin, sk_nilc, sk_fld, sk_load, sk_lenM, sk_mfn, get_mk, raw_slot, raw_lit, put_some, wb_nil, ev_mv, ev_nilc, ev_fld, bin_geq, ev_ldP, ldP_some, ro_int, ro_bool, ro_ptr, ro_mp, got_int, got_fn, pubs, pubsFrom, List.map_cons, List.map_nil, List.getD_cons_zero, List.getD_cons_succ, List.set_cons_zero, List.set_cons_succ, List.getElem?_cons_zero, List.getElem?_cons_succ, Bool.false_eq_true, Option.map_some, ↓reduceIte, Nat.zero_add, ge_iff_le]
    refine callK_intro hd ?_
    obtain ⟨i, w1, w2⟩ := ment_g (ks := [.i, .s]) (ak := true) (z := .int .i64 0) (e := eO) (f := .int .i64) (z0 := 0) keyO keyOkO rfl V.n (key, label)
    obtain ⟨w3, w4⟩ := w2 n
    obtain ⟨i', x1, x2⟩ := ment_g (ks := [.i]) (ak := false) (z := .bool false) (e := .int .i64) (f := .bool) (z0 := false) keyI (fun _ => keyOkF _ _) rfl V.t n
    obtain ⟨x3, x4⟩ := x2 true
    change mentV [.i, .s] true (.int .i64 0) (.agg [.int .i64 key, .str label]) (encN V.n) = _ at w1
    change mentV [.i] false (.bool false) (.int .i64 n) (encT V.t) = _ at x1
    change _ = encN (mput (key, label) n V.n) at w4
    change _ = encT (mput n true V.t) at x4
    obtain ⟨L1, hL1⟩ : ∃ L1, L1 = (mput (key, label) ((mget (key, label) V.n).getD 0) V.n).map fun p => (eO p.1, SV.int .i64 p.2) := ⟨_, rfl⟩
    obtain ⟨L2, hL2⟩ : ∃ L2, L2 = (mput n ((mget n V.t).getD false) V.t).map fun p => (SV.int .i64 p.1, SV.bool p.2) := ⟨_, rfl⟩
    rw [← hL1] at w1 w3 w4
    rw [← hL2] at x1 x3 x4
    simp only [eO] at w3 w4
    have hl1 : m + 1 < s2.length := by rw [hs2]; simp; omega
    have hl2 : m + 2 < s2.length := by rw [hs2]; simp; omega
    have y1 : (s2.set (m + 1) (.map L1))[m + 1]? = some (.map L1) := by simp [hl1]
    have y2 : (s2.set (m + 1) (.map (encN (mput (key, label) n V.n))))[m + 2]? = some (.map (encT V.t)) := by rw [List.getElem?_set_ne (by omega)]; exact h1.t
    have y3 : ((s2.set (m + 1) (.map (encN (mput (key, label) n V.n)))).set (m + 2) (.map L2))[m + 2]? = some (.map L2) := by simp [hl2]
    have i0 : (0 : Int) ≤ (i : Int) := by omega
    have i0' : (0 : Int) ≤ (i' : Int) := by omega
    simp (maxSteps := 2000000) (disch := first | omega | (simp only [List.length_append, List.length_cons, List.length_nil, List.length_map] <;> omega)) only [hb, hc, h1.v, h1.n, ev_ldA, List.drop_zero, List.take_succ_cons, List.take_zero, w1, w3, w4, y1, y2, y3, i0, i0', x1, x3, x4, List.set_set, Int.toNat_natCast, sk_ment, sk_mest, ev_ment, ev_mest, apM_some, apO_some, flg_int, swp_seq, swp_reg, swp_ret, seqK_n, evK_some, appK_eq, appC_eq, srun_nil, srun_cons, fin_two, sk_mv, sk_give, sk_nilc, sk_fld, sk_load, sk_ext, get_mk, raw_slot, raw_lit, put_some, put_none, wb_nil, ev_mv, ev_give, ev_nilc, ev_fld, ev_ext, ev_ldP, ldP_some, ro_int, ro_bool, ro_ptr, ro_mp, ro_agg, ro1_int, ro1_str, List.map_cons, List.map_nil, List.getD_cons_zero, List.getD_cons_succ, List.set_cons_zero, List.set_cons_succ, List.getElem?_cons_zero, List.getElem?_cons_succ, List.length_cons, List.length_nil, Nat.reduceAdd, true_and, Bool.false_eq_true, Option.map_some, ↓reduceIte, Nat.zero_add, Nat.le_refl]
    refine ⟨(st.set (m + 1) (.map (encN (mput (key, label) n V.n)))).set (m + 2) (.map (encT (mput n true V.t))), ?_, rfl⟩
    rw [hs2, hall, set_app hm1, set_app (by simpa using hm2)]
    have := trim1 (st := (st.set (m + 1) (.map (encN (mput (key, label) n V.n)))).set (m + 2) (.map (encT (mput n true V.t)))) (x := [A, C]) (vs := [.tup [.int .i64 n, .int .i64 0]]) (okSt_set (okSt_set ho (ob_encN _ _)) (ob_encT _ _)) rfl
    simpa using this
end Go.Sh.F
