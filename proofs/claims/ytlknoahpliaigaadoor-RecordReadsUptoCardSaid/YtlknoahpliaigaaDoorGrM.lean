/-
  Records: numbers within, clocks, how many pieces, in the shadow machine.
  Records and chains: what is told of manifests, in plain words.
  Records: right pieces, right manifests, in the shadow machine.
  Records: right manifests, small ones, rows of numbers, in the shadow machine.
  Records: which manifests are right, in the shadow machine.
  Records: the document's Right; rows of numbers, manifests that are the same, in the shadow machine.
  The contracts so far.
  Records: rows of numbers, manifests that are the same, copies of rows, in the shadow machine.
  Records: the document's Same, in the shadow machine.
  Records: what copies of manifests are, in plain words.
  Records: Copy, in the shadow machine.
-/
import Derived.Test.YtlknoahpliaigaaDoorGpM
import Derived.Test.YtlknoahpliaigaaDoorShRd
set_option linter.unusedSimpArgs false
set_option linter.unusedVariables false
namespace Go.Sh.F
open Go.PathLaw Go.Proofs
def wth (most n : Int) : Bool := decide (0 ≤ n) && decide (n ≤ most)
theorem wth_not (most n : Int) : (decide (n < 0) || decide (most < n)) = !wth most n := by
  unfold wth
  by_cases h1 : 0 ≤ n
  · by_cases h2 : n ≤ most
    · simp [h1, h2, show ¬ n < 0 by omega, show ¬ most < n by omega]
    · simp [h1, h2, show ¬ n < 0 by omega, show most < n by omega]
  · simp [h1, show n < 0 by omega]
def oneOb (st : List Ob) (id : Nat) (n : Int) : Prop := st[id]? = some (.cells [.int .i64 n])
theorem g40 (O : Orc) (n most : Int) (id : Nat) (st : List Ob) (h : oneOb st id most) : swpF O sf53 [.int .i64 n, .ptr id 0] st (fun r st' => r = .bool (!wth most n) ∧ st' = st) := by
  have h' : st[id]? = some (.cells [.int .i64 most]) := h
  rw [← wth_not]
  cases h1 : decide (n < 0) with
  | true =>
    simp (maxSteps := 2000000) (disch := first | omega | simp only [List.length_append, List.length_cons, List.length_nil, List.length_map] <;> omega) only [sf53, h1, flg_bool, swp_seq, swp_reg, swp_ret, seqK_n, evK_some, appK_eq, grd_t, srun_nil, srun_cons, stepK_grd, fin_ret, swpF_eq, sk_mv, sk_give, sk_pick, sk_bin, get_mk, raw_slot, raw_lit, put_some, wb_nil, ev_mv, ev_give, ev_pick, bin_lss, ro_int, ro_bool, List.map_cons, List.map_nil, List.getD_cons_zero, List.getD_cons_succ, List.set_cons_zero, List.set_cons_succ, List.length_cons, List.length_nil, List.replicate_succ, List.replicate_zero, List.cons_append, List.nil_append, Nat.reduceAdd, Nat.reduceSub, Bool.false_eq_true, ↓reduceIte, Nat.zero_add, reduceCtorEq]
    first | exact ⟨_, .same⟩ | exact ⟨_, .same, rfl⟩ | exact ⟨_, .same, rfl, rfl⟩
  | false =>
    simp (maxSteps := 2000000) (disch := first | omega | simp only [List.length_append, List.length_cons, List.length_nil, List.length_map] <;> omega) only [sf53, h1, h', flg_bool, exc_int, swp_seq, swp_reg, swp_ret, seqK_n, evK_some, appK_eq, grd_t, srun_nil, srun_cons, stepK_grd, fin_ret, swpF_eq, sk_mv, sk_take, sk_give, sk_pick, sk_bin, sk_load, get_mk, raw_slot, raw_lit, put_some, wb_nil, ev_mv, ev_take, ev_give, ev_pick, bin_lss, bin_gtr, ev_ldP, ldP_some, ro_int, ro_bool, got_int, List.map_cons, List.map_nil, List.getD_cons_zero, List.getD_cons_succ, List.set_cons_zero, List.set_cons_succ, List.getElem?_cons_zero, List.length_cons, List.length_nil, List.replicate_succ, List.replicate_zero, List.cons_append, List.nil_append, Nat.reduceAdd, Nat.reduceSub, Bool.false_eq_true, Option.map_some, ↓reduceIte, Nat.zero_add, gt_iff_lt]
    first | exact ⟨_, .same⟩ | exact ⟨_, .same, rfl⟩ | exact ⟨_, .same, rfl, rfl⟩
def O23 : Orc := O22.add 53 (StC fun st args r => ∃ (n most : Int) (id : Nat), oneOb st id most ∧ args = [.int .i64 n, .ptr id 0] ∧ r = .bool (!wth most n))
theorem s23 : Sound Tryd.prog O23 := s22.addS c53 (by kernel_rfl) (by
  rintro args r st ⟨n, most, id, h, rfl, rfl⟩
  exact ⟨by simp [sf53], g40 _ n most id st h⟩)
def outI (most : Int) : List Int → Int
  | [] => -1
  | x :: r => if wth most x = true then (if outI most r = -1 then -1 else outI most r + 1) else 0
theorem outI_ge (most : Int) : ∀ l, -1 ≤ outI most l
  | [] => by simp [outI]
  | x :: r => by
    have := outI_ge most r
    unfold outI
    split
    · split <;> omega
    · omega
theorem outI_all (most : Int) : ∀ l, decide (0 ≤ outI most l) = !(l.all (wth most))
  | [] => rfl
  | x :: r => by
    have ih := outI_all most r
    have hge := outI_ge most r
    unfold outI
    rw [List.all_cons]
    cases h : wth most x with
    | false => rw [if_neg (by simp)]; rfl
    | true =>
      rw [if_pos rfl, Bool.true_and, ← ih]
      split
      · rename_i e; rw [e]
      · rw [decide_eq_decide]; omega
theorem outI_drop (most : Int) : ∀ (l : List Int) (i : Nat), (l.take i).all (wth most) = true → i < l.length → ∀ h : i < l.length, (wth most l[i] = false → outI most l = i) := by
  intro l
  induction l with
  | nil => intro i _ h; simp at h
  | cons x r ih =>
    intro i hall hi h hw
    cases i with
    | zero =>
      unfold outI
      rw [if_neg (by simp only [List.getElem_cons_zero] at hw; rw [hw]; simp)]; rfl
    | succ i =>
      simp only [List.take_succ_cons, List.all_cons, Bool.and_eq_true] at hall
      have := ih i hall.2 (by simpa using hi) (by simpa using hi) (by simpa using hw)
      unfold outI
      rw [if_pos hall.1, this, if_neg (by omega)]; omega
theorem outI_none {most : Int} {l : List Int} (h : l.all (wth most) = true) : outI most l = -1 := by
  have := outI_all most l
  rw [h] at this
  have hge := outI_ge most l
  simp only [Bool.not_true, decide_eq_false_iff_not] at this
  omega
set_option maxHeartbeats 4000000 in
theorem g47 (v : SV) (l : List Int) (most : Int) (id : Nat) (st : List Ob) (hv : RowI st v l) (hl : l.length ≤ 1099511627776) (h : oneOb st id most) : swpF O23 sf49 [v, .fn 53 [] [.ptr id 0]] st (fun r st' => r = .int .i64 (outI most l) ∧ st' = st) := by
  obtain ⟨q1, q2, q3, q4, q6, q7⟩ := hv.facts
  have q5 := hv.lenL
  simp (maxSteps := 2000000) (disch := first | omega | simp only [List.length_append, List.length_cons, List.length_nil, List.length_map] <;> omega) only [sf49, q1, q5, flg_int, swp_seq, swp_reg, swp_block, seqK_n, evK_some, appK_eq, srun_nil, srun_cons, swpF_eq, sk_mv, sk_give, sk_lenL, get_mk, raw_slot, raw_lit, put_some, wb_nil, ev_mv, ev_give, ro_int, List.map_cons, List.map_nil, List.getD_cons_zero, List.set_cons_zero, List.set_cons_succ, List.length_cons, List.length_nil, List.replicate_succ, List.replicate_zero, List.cons_append, List.nil_append, Nat.reduceAdd, Nat.reduceSub, Bool.false_eq_true, ↓reduceIte, Nat.zero_add, Int.reduceNeg]
  refine swp_lp (fun S => ∃ (i : Nat), i ≤ l.length ∧ (l.take i).all (wth most) = true ∧
      S = ⟨[v, .fn 53 [] [.ptr id 0], .undef, .undef, .int .i64 0, .undef, v, .int .i64 l.length, .int .i64 i] ++ List.replicate 10 .undef, st⟩)
      (fun S => match S.get 8 with | .int _ k => ((l.length : Int) - k).toNat | _ => 0)
      ⟨[v, .fn 53 [] [.ptr id 0], .undef, .undef, .int .i64 0, .undef, v, .int .i64 l.length, .int .i64 0] ++ List.replicate 10 .undef, st⟩ ?_ ⟨0, Nat.zero_le _, rfl, rfl⟩ ?_
  · refine Forget.of ?_
    repeat first | exact fg_e | refine fg_d ?_ | refine fg_k rfl ?_
  rintro S ⟨i, hi, hall, rfl⟩
  by_cases him : i = l.length
  · have hd : decide ((i : Int) < (l.length : Int)) = false := by rw [decide_eq_false_iff_not]; omega
    rw [him, List.take_length] at hall
    rw [outI_none hall]
    simp (maxSteps := 2000000) (disch := first | omega | simp only [List.length_append, List.length_cons, List.length_nil, List.length_map] <;> omega) only [hd, lpK_e, flg_int, swp_seq, swp_reg, swp_ret, swp_exit, swp_cond, seqK_n, seqK_e, blkK_e, condK_f, evK_some, appK_eq, srun_nil, srun_cons, fin_ret, sk_give, sk_bin, get_mk, raw_slot, raw_lit, put_some, wb_nil, ev_give, bin_lss, ro_int, List.map_cons, List.map_nil, List.getD_cons_zero, List.getD_cons_succ, List.set_cons_zero, List.set_cons_succ, List.replicate_succ, List.replicate_zero, List.cons_append, List.nil_append, true_and, Bool.false_eq_true, ↓reduceIte, Int.reduceNeg]
    first | exact ⟨_, .same⟩ | exact ⟨_, .same, rfl⟩ | exact ⟨_, .same, rfl, rfl⟩
  have hd : decide ((i : Int) < (l.length : Int)) = true := by rw [decide_eq_true_eq]; omega
  have hil : i < l.length := by omega
  have z1 := hv.idxB hil .i64
  rw [Nat.mul_one] at z1
  have z2 := hv.ld1' (isv_at (List.getElem?_eq_getElem hil))
  have fin : ((l.length : Int) - ((i + 1 : Nat) : Int)).toNat < ((l.length : Int) - (i : Int)).toNat := by omega
  have k40 : O23 53 [.int .i64 l[i], .ptr id 0] st (.bool (!wth most l[i])) st := (by repeat first | exact Or.inr ⟨rfl, rfl, l[i], most, id, h, rfl, rfl⟩ | refine Or.inl ?_)
  simp (maxSteps := 2000000) (disch := first | omega | simp only [List.length_append, List.length_cons, List.length_nil, List.length_map] <;> omega) only [hd, z1, z2, q1, stepK_callv, callvK_fn, exc_int, exc_fn, sk_idxB, swp_seq, swp_reg, swp_skip, swp_block, swp_cond, seqK_n, condK_t, evK_some, appK_eq, srun_nil, srun_cons, sk_mv, sk_take, sk_bin, sk_load, get_mk, raw_slot, put_some, wb_nil, ev_mv, ev_take, bin_lss, ro_int, ro_fn, got_int, pubs, pubsFrom, List.map_cons, List.map_nil, List.getD_cons_zero, List.getD_cons_succ, List.set_cons_zero, List.set_cons_succ, List.replicate_succ, List.replicate_zero, List.cons_append, List.nil_append, Bool.false_eq_true, ↓reduceIte, Int.reduceNeg]
  refine callK_intro k40 ?_
  cases hw : wth most l[i] with
  | false =>
    rw [outI_drop most l i hall hil hil hw]
    simp (maxSteps := 2000000) (disch := first | omega | simp only [List.length_append, List.length_cons, List.length_nil, List.length_map] <;> omega) only [lpK_r, flg_int, swp_seq, swp_reg, swp_ret, swp_cond, seqK_n, seqK_r, blkK_r, condK_t, evK_some, appK_eq, appC_eq, srun_nil, srun_cons, fin_ret, sk_mv, sk_give, get_mk, raw_slot, put_some, wb_nil, ev_mv, ev_give, ro_int, List.map_cons, List.map_nil, List.getD_cons_zero, List.getD_cons_succ, List.set_cons_zero, List.set_cons_succ, true_and, Bool.false_eq_true, ↓reduceIte, Bool.not_false, Int.reduceNeg]
    first | exact ⟨_, .same⟩ | exact ⟨_, .same, rfl⟩ | exact ⟨_, .same, rfl, rfl⟩
  | true =>
    simp (maxSteps := 2000000) (disch := first | omega | simp only [List.length_append, List.length_cons, List.length_nil, List.length_map] <;> omega) only [lpK_n, swp_reg, swp_skip, swp_cond, seqK_n, blkK_n, condK_f, evK_some, appK_eq, appC_eq, srun_nil, srun_cons, sk_mv, sk_bin, get_mk, raw_slot, raw_lit, put_some, wb_nil, ev_mv, bin_add, ro_int, List.map_cons, List.map_nil, List.getD_cons_zero, List.getD_cons_succ, List.set_cons_zero, List.set_cons_succ, Bool.not_true, Int.reduceNeg, wrap_i64]
    refine ⟨_, ?_, ⟨i + 1, by omega, by rw [← List.take_append_getElem hil, List.all_append, hall]; simp [hw], rfl⟩, by exact fin⟩
    refine Forget.of ?_
    repeat first | exact fg_e | refine fg_d ?_ | refine fg_k rfl ?_
def O24 : Orc := O23.add 49 (StC fun st args r => ∃ (v : SV) (l : List Int) (most : Int) (id : Nat), RowI st v l ∧ l.length ≤ 1099511627776 ∧ oneOb st id most ∧ args = [v, .fn 53 [] [.ptr id 0]] ∧ r = .int .i64 (outI most l))
theorem s24 : Sound Tryd.prog O24 := s23.addS c49 (by kernel_rfl) (by
  rintro args r st ⟨v, l, most, id, hv, hl, h, rfl, rfl⟩
  exact ⟨by simp [sf49], g47 v l most id st hv hl h⟩)
theorem g39 (v : SV) (l : List Int) (most : Int) (id : Nat) (st : List Ob) (hv : RowI st v l) (hl : l.length ≤ 1099511627776) (h : oneOb st id most) : swpF O24 sf52 [v, .fn 53 [] [.ptr id 0]] st (fun r st' => r = .bool (!(l.all (wth most))) ∧ st' = st) := by
  obtain ⟨q1, q2, q3, q4, q6, q7⟩ := hv.facts
  have k47 : O24 49 [v, .fn 53 [] [.ptr id 0]] st (.int .i64 (outI most l)) st := (by repeat first | exact Or.inr ⟨rfl, rfl, v, l, most, id, hv, hl, h, rfl, rfl⟩ | refine Or.inl ?_)
  have e := outI_all most l
  simp (maxSteps := 2000000) (disch := first | omega | simp only [List.length_append, List.length_cons, List.length_nil, List.length_map] <;> omega) only [sf52, q1, q2, q3, flg_bool, exc_fn, swp_seq, swp_reg, seqK_n, evK_some, appK_eq, srun_nil, srun_cons, stepK_call, swpF_eq, sk_mv, sk_give, get_mk, raw_slot, raw_lit, put_some, wb_nil, ev_mv, ev_give, ro_bool, ro_fn, got_fn, pubs, pubsFrom, List.map_cons, List.map_nil, List.getD_cons_zero, List.getD_cons_succ, List.set_cons_zero, List.set_cons_succ, List.length_cons, List.length_nil, List.replicate_succ, List.replicate_zero, List.cons_append, List.nil_append, Nat.reduceAdd, Nat.reduceSub, Bool.false_eq_true, ↓reduceIte, Nat.zero_add]
  refine callK_intro k47 ?_
  simp (maxSteps := 2000000) (disch := first | omega | simp only [List.length_append, List.length_cons, List.length_nil, List.length_map] <;> omega) only [e, flg_bool, swp_ret, seqK_n, evK_some, appK_eq, appC_eq, srun_nil, srun_cons, fin_ret, sk_give, sk_bin, get_mk, raw_slot, raw_lit, put_some, wb_nil, ev_give, bin_geq, ro_bool, List.map_cons, List.map_nil, List.getD_cons_zero, List.getD_cons_succ, List.set_cons_zero, List.set_cons_succ, true_and, Bool.false_eq_true, ↓reduceIte, ge_iff_le]
  first | exact ⟨_, .same⟩ | exact ⟨_, .same, rfl⟩ | exact ⟨_, .same, rfl, rfl⟩
def O25 : Orc := O24.add 52 (StC fun st args r => ∃ (v : SV) (l : List Int) (most : Int) (id : Nat), RowI st v l ∧ l.length ≤ 1099511627776 ∧ oneOb st id most ∧ args = [v, .fn 53 [] [.ptr id 0]] ∧ r = .bool (!(l.all (wth most))))
theorem s25 : Sound Tryd.prog O25 := s24.addS c52 (by kernel_rfl) (by
  rintro args r st ⟨v, l, most, id, hv, hl, h, rfl, rfl⟩
  exact ⟨by simp [sf52], g39 v l most id st hv hl h⟩)
theorem ev_mfn01 {st : List Ob} {f : FuncId} {v : SV} : ev st (.mfn f 0 1) [v] = some (.fn f [] [ro v], [], st) := rfl
theorem g26 (v : SV) (l : List Int) (most : Int) (st : List Ob) (hv : RowI st v l) (hl : l.length ≤ 1099511627776) (ho : okSt st) : swpF O25 sf32 [.int .i64 most, v] st (fun r st' => r = .bool (l.all (wth most)) ∧ st' = st) := by
  obtain ⟨q1, q2, q3, q4, q6, q7⟩ := hv.facts
  have h1 : oneOb (st ++ [.cells [.int .i64 most]]) st.length most := by unfold oneOb; rw [getA0]; rfl
  have k39 : O25 52 [v, .fn 53 [] [.ptr st.length 0]] (st ++ [.cells [.int .i64 most]]) (.bool (!(l.all (wth most)))) (st ++ [.cells [.int .i64 most]]) := (by repeat first | exact Or.inr ⟨rfl, rfl, v, l, most, st.length, RowAt.mono hv _, hl, h1, rfl, rfl⟩ | refine Or.inl ?_)
  simp (maxSteps := 2000000) (disch := first | omega | simp only [List.length_append, List.length_cons, List.length_nil, List.length_map] <;> omega) only [sf32, ev_mfn01, q1, q2, q3, flg_bool, exc_int, exc_fn, swp_seq, swp_reg, seqK_n, evK_some, appK_eq, srun_nil, srun_cons, stepK_call, swpF_eq, sk_mv, sk_give, sk_box, sk_mfn, get_mk, raw_slot, raw_lit, put_some, wb_nil, ev_mv, ev_give, ev_box, ro_bool, ro_ptr, got_int, got_fn, pubs, pubsFrom, List.map_cons, List.map_nil, List.getD_cons_zero, List.getD_cons_succ, List.set_cons_zero, List.set_cons_succ, List.length_cons, List.length_nil, List.replicate_succ, List.replicate_zero, List.cons_append, List.nil_append, Nat.reduceAdd, Nat.reduceSub, Bool.false_eq_true, ↓reduceIte, List.all_cons, List.all_nil, Bool.and_self, cellsV, isCell, Nat.zero_add]
  refine callK_intro k39 ?_
  simp (maxSteps := 2000000) (disch := first | omega | simp only [List.length_append, List.length_cons, List.length_nil, List.length_map] <;> omega) only [Bool.not_not, flg_bool, swp_ret, seqK_n, evK_some, appK_eq, appC_eq, srun_nil, srun_cons, fin_ret, sk_give, sk_un, get_mk, raw_slot, put_some, wb_nil, ev_give, ev_not, ro_bool, List.map_cons, List.map_nil, List.getD_cons_zero, List.getD_cons_succ, List.set_cons_zero, List.set_cons_succ, true_and, Bool.false_eq_true, ↓reduceIte]
  first | exact ⟨_, trim1 ho rfl⟩ | exact ⟨_, trim1 ho rfl, rfl⟩ | exact ⟨_, trim1 ho rfl, rfl, rfl⟩ | exact ⟨_, trim1 ho rfl, by simp, rfl⟩ | exact ⟨_, trim1 ho rfl, by simp⟩
def O26 : Orc := O25.add 32 (StC fun st args r => ∃ (v : SV) (l : List Int) (most : Int), RowI st v l ∧ l.length ≤ 1099511627776 ∧ okSt st ∧ args = [.int .i64 most, v] ∧ r = .bool (l.all (wth most)))
theorem s26 : Sound Tryd.prog O26 := s25.addS c32 (by kernel_rfl) (by
  rintro args r st ⟨v, l, most, hv, hl, ho, rfl, rfl⟩
  exact ⟨by simp [sf32], g26 v l most st hv hl ho⟩)
def clockB (a b : Int) : Bool := wth 1073741824 a && wth 1073741824 b
theorem g42 (O : Orc) (a b : Int) (st : List Ob) (ho : okSt st) : swpF O sf55 [.agg [.int .i64 a, .int .i64 b]] st (fun r st' => r = .bool (clockB a b) ∧ st' = st) := by
  have e : clockB a b = (decide (0 ≤ (if b < a then b else a)) && decide ((if a < b then b else a) ≤ 1073741824)) := by
    unfold clockB wth
    rw [Bool.eq_iff_iff]
    simp only [Bool.and_eq_true, decide_eq_true_eq]
    split <;> split <;> omega
  rw [e]
  cases h1 : decide (0 ≤ (if b < a then b else a)) with
  | false =>
    simp (maxSteps := 2000000) (disch := first | omega | simp only [List.length_append, List.length_cons, List.length_nil, List.length_map] <;> omega) only [sf55, h1, getA0, flg_bool, exc_agg, swp_seq, swp_reg, swp_ret, seqK_n, evK_some, appK_eq, grd_t, srun_nil, srun_cons, stepK_grd, fin_ret, swpF_eq, sk_mv, sk_give, sk_pick, sk_bin, sk_fld, sk_load, sk_min, sk_box, get_mk, raw_slot, raw_lit, put_some, wb_nil, ev_mv, ev_give, ev_pick, ev_fld, ev_min, bin_geq, ev_box, ev_ldP, ldP_some, ro_int, ro_bool, ro1_int, got_agg, List.map_cons, List.map_nil, List.getD_cons_zero, List.getD_cons_succ, List.set_cons_zero, List.set_cons_succ, List.getElem?_cons_zero, List.getElem?_cons_succ, List.length_cons, List.length_nil, List.replicate_succ, List.replicate_zero, List.cons_append, List.nil_append, Nat.reduceSub, Bool.false_eq_true, Option.map_some, ↓reduceIte, List.all_cons, List.all_nil, Bool.and_self, cellsV, isCell, Nat.zero_add, ge_iff_le]
    first | exact ⟨_, trim1 ho rfl⟩ | exact ⟨_, trim1 ho rfl, rfl⟩ | exact ⟨_, trim1 ho rfl, rfl, rfl⟩ | exact ⟨_, trim1 ho rfl, by simp, rfl⟩ | exact ⟨_, trim1 ho rfl, by simp⟩
  | true =>
    simp (maxSteps := 2000000) (disch := first | omega | simp only [List.length_append, List.length_cons, List.length_nil, List.length_map] <;> omega) only [sf55, h1, getA0, flg_bool, exc_agg, swp_seq, swp_reg, swp_ret, seqK_n, evK_some, appK_eq, grd_t, srun_nil, srun_cons, stepK_grd, fin_ret, swpF_eq, sk_mv, sk_give, sk_pick, sk_bin, sk_fld, sk_load, sk_min, sk_max, sk_box, get_mk, raw_slot, raw_lit, put_some, wb_nil, ev_mv, ev_give, ev_pick, ev_fld, ev_min, ev_max, bin_leq, bin_geq, ev_box, ev_ldP, ldP_some, ro_int, ro_bool, ro1_int, got_agg, List.map_cons, List.map_nil, List.getD_cons_zero, List.getD_cons_succ, List.set_cons_zero, List.set_cons_succ, List.getElem?_cons_zero, List.getElem?_cons_succ, List.length_cons, List.length_nil, List.replicate_succ, List.replicate_zero, List.cons_append, List.nil_append, Nat.reduceSub, Bool.false_eq_true, Option.map_some, ↓reduceIte, List.all_cons, List.all_nil, Bool.and_self, cellsV, isCell, Nat.zero_add, ge_iff_le, gt_iff_lt]
    first | exact ⟨_, trim1 ho rfl⟩ | exact ⟨_, trim1 ho rfl, rfl⟩ | exact ⟨_, trim1 ho rfl, rfl, rfl⟩ | exact ⟨_, trim1 ho rfl, by simp, rfl⟩ | exact ⟨_, trim1 ho rfl, by simp⟩
def KClock : List Ob → List SV → SV → Prop := fun st args r => ∃ a b : Int, okSt st ∧ args = [.agg [.int .i64 a, .int .i64 b]] ∧ r = .bool (clockB a b)
def O27 : Orc := O26.add 55 (StC KClock)
theorem s27 : Sound Tryd.prog O27 := s26.addS c55 (by kernel_rfl) (by
  rintro args r st ⟨a, b, ho, rfl, rfl⟩
  exact ⟨by simp [sf55], g42 _ a b st ho⟩)
theorem g45 (O : Orc) (a b : Int) (st : List Ob) (ho : okSt st) : swpF O sf57 [.agg [.int .i64 a, .int .i64 b]] st (fun r st' => r = .bool (clockB a b) ∧ st' = st) := by
  unfold clockB wth
  obtain ⟨b1, h1⟩ : ∃ x, decide (0 ≤ a) = x := ⟨_, rfl⟩
  obtain ⟨b2, h2⟩ : ∃ x, decide (a ≤ 1073741824) = x := ⟨_, rfl⟩
  obtain ⟨b3, h3⟩ : ∃ x, decide (0 ≤ b) = x := ⟨_, rfl⟩
  rw [h1, h2, h3]
  cases b1 <;> cases b2 <;> cases b3
  all_goals
    simp (maxSteps := 2000000) (disch := first | omega | simp only [List.length_append, List.length_cons, List.length_nil, List.length_map] <;> omega) only [sf57, h1, h2, h3, getA0, flg_bool, exc_agg, swp_seq, swp_reg, swp_ret, seqK_n, evK_some, appK_eq, grd_t, srun_nil, srun_cons, stepK_grd, fin_ret, swpF_eq, sk_mv, sk_give, sk_pick, sk_bin, sk_fld, sk_load, sk_box, get_mk, raw_slot, raw_lit, put_some, wb_nil, ev_mv, ev_give, ev_pick, ev_fld, bin_leq, bin_geq, ev_box, ev_ldP, ldP_some, ro_int, ro_bool, ro1_int, got_agg, List.map_cons, List.map_nil, List.getD_cons_zero, List.getD_cons_succ, List.set_cons_zero, List.set_cons_succ, List.getElem?_cons_zero, List.getElem?_cons_succ, List.length_cons, List.length_nil, List.replicate_succ, List.replicate_zero, List.cons_append, List.nil_append, Nat.reduceSub, Bool.false_eq_true, Option.map_some, ↓reduceIte, List.all_cons, List.all_nil, Bool.and_true, Bool.and_self, cellsV, isCell, Nat.zero_add, ge_iff_le]
    first | exact ⟨_, trim1 ho rfl⟩ | exact ⟨_, trim1 ho rfl, rfl⟩ | exact ⟨_, trim1 ho rfl, rfl, rfl⟩ | exact ⟨_, trim1 ho rfl, by simp, rfl⟩ | exact ⟨_, trim1 ho rfl, by simp⟩
def O28 : Orc := O27.add 57 (StC KClock)
theorem s28 : Sound Tryd.prog O28 := s27.addS c57 (by kernel_rfl) (by
  rintro args r st ⟨a, b, ho, rfl, rfl⟩
  exact ⟨by simp [sf57], g45 _ a b st ho⟩)
def countF (n : Int) : Int := if n < 1 then 0 else (n - 1).tdiv 64 + 1
theorem td64 {n : Int} (h : 1 ≤ n) : 0 ≤ (n - 1).tdiv 64 ∧ (n - 1).tdiv 64 ≤ n - 1 := by
  rw [Int.tdiv_eq_ediv_of_nonneg (by omega)]
  omega
theorem g43 (O : Orc) (n : Int) (hn : n ≤ 9223372036854775807) (st : List Ob) : swpF O sf24 [.int .i64 n] st (fun r st' => r = .int .i64 (countF n) ∧ st' = st) := by
  by_cases h : n < 1
  · have hd : decide (n < 1) = true := by simpa using h
    simp (maxSteps := 2000000) (disch := first | omega | simp only [List.length_append, List.length_cons, List.length_nil, List.length_map] <;> omega) only [sf24, hd, flg_int, swp_seq, swp_reg, swp_ret, swp_cond, seqK_n, seqK_r, condK_t, evK_some, appK_eq, srun_nil, srun_cons, fin_ret, swpF_eq, sk_mv, sk_give, sk_bin, get_mk, raw_slot, raw_lit, put_some, wb_nil, ev_mv, ev_give, bin_lss, ro_int, List.map_cons, List.map_nil, List.getD_cons_zero, List.getD_cons_succ, List.set_cons_zero, List.set_cons_succ, List.length_cons, List.length_nil, List.replicate_succ, List.replicate_zero, List.cons_append, List.nil_append, Nat.reduceSub, Bool.false_eq_true, ↓reduceIte, Nat.zero_add]
    exact ⟨_, .same, by unfold countF; rw [if_pos h], rfl⟩
  · have hd : decide (n < 1) = false := by simpa using h
    have ht := td64 (n := n) (by omega)
    have hnn : ¬ (64 : Int) = 0 := by decide
    simp (maxSteps := 2000000) (disch := first | omega | simp only [List.length_append, List.length_cons, List.length_nil, List.length_map] <;> omega) only [sf24, hd, bin_quo hnn, flg_int, swp_seq, swp_reg, swp_skip, swp_ret, swp_cond, seqK_n, condK_f, evK_some, appK_eq, srun_nil, srun_cons, fin_ret, swpF_eq, sk_mv, sk_give, sk_bin, get_mk, raw_slot, raw_lit, put_some, wb_nil, ev_mv, ev_give, bin_add, bin_sub, bin_lss, ro_int, List.map_cons, List.map_nil, List.getD_cons_zero, List.getD_cons_succ, List.set_cons_zero, List.set_cons_succ, List.length_cons, List.length_nil, List.replicate_succ, List.replicate_zero, List.cons_append, List.nil_append, Nat.reduceSub, Bool.false_eq_true, ↓reduceIte, Nat.zero_add, wrap_i64]
    exact ⟨_, .same, by unfold countF; rw [if_neg h], rfl⟩
def KCount : List SV → SV → Prop := fun args r => ∃ n : Int, n ≤ 9223372036854775807 ∧ args = [.int .i64 n] ∧ r = .int .i64 (countF n)
def O29 : Orc := O28.add 24 (FnC KCount)
theorem s29 : Sound Tryd.prog O29 := s28.addP c24 (by kernel_rfl) (by
  rintro args r ⟨n, hn, rfl, rfl⟩
  exact ⟨by simp [sf24], fun st => g43 _ n hn st⟩)
theorem g46 (O : Orc) (n : Int) (hn : n ≤ 9223372036854775807) (st : List Ob) : swpF O sf58 [.int .i64 n] st (fun r st' => r = .int .i64 (countF n) ∧ st' = st) := by
  by_cases h : n < 1
  · have hd : decide (n < 1) = true := by simpa using h
    simp (maxSteps := 2000000) (disch := first | omega | simp only [List.length_append, List.length_cons, List.length_nil, List.length_map] <;> omega) only [sf58, hd, flg_int, swp_seq, swp_reg, swp_ret, swp_cond, seqK_n, seqK_r, condK_t, evK_some, appK_eq, srun_nil, srun_cons, fin_ret, swpF_eq, sk_mv, sk_give, sk_bin, get_mk, raw_slot, raw_lit, put_some, wb_nil, ev_mv, ev_give, bin_lss, ro_int, List.map_cons, List.map_nil, List.getD_cons_zero, List.getD_cons_succ, List.set_cons_zero, List.set_cons_succ, List.length_cons, List.length_nil, List.replicate_succ, List.replicate_zero, List.cons_append, List.nil_append, Nat.reduceSub, Bool.false_eq_true, ↓reduceIte, Nat.zero_add]
    exact ⟨_, .same, by unfold countF; rw [if_pos h], rfl⟩
  · have hd : decide (n < 1) = false := by simpa using h
    have ht := td64 (n := n) (by omega)
    have hnn : ¬ (64 : Int) = 0 := by decide
    simp (maxSteps := 2000000) (disch := first | omega | simp only [List.length_append, List.length_cons, List.length_nil, List.length_map] <;> omega) only [sf58, hd, bin_quo hnn, flg_int, swp_seq, swp_reg, swp_skip, swp_ret, swp_cond, seqK_n, condK_f, evK_some, appK_eq, srun_nil, srun_cons, fin_ret, swpF_eq, sk_mv, sk_give, sk_bin, get_mk, raw_slot, raw_lit, put_some, wb_nil, ev_mv, ev_give, bin_add, bin_sub, bin_lss, ro_int, List.map_cons, List.map_nil, List.getD_cons_zero, List.getD_cons_succ, List.set_cons_zero, List.set_cons_succ, List.length_cons, List.length_nil, List.replicate_succ, List.replicate_zero, List.cons_append, List.nil_append, Nat.reduceSub, Bool.false_eq_true, ↓reduceIte, Nat.zero_add, wrap_i64]
    exact ⟨_, .same, by unfold countF; rw [if_neg h], rfl⟩
def O30 : Orc := O29.add 58 (FnC KCount)
theorem s30 : Sound Tryd.prog O30 := s29.addP c58 (by kernel_rfl) (by
  rintro args r ⟨n, hn, rfl, rfl⟩
  exact ⟨by simp [sf58], fun st => g46 _ n hn st⟩)
theorem g35 (O : Orc) (n most : Int) (st : List Ob) : swpF O sf34 [.int .i64 n, .int .i64 most] st (fun r st' => r = .bool (wth most n) ∧ st' = st) := by
  unfold wth
  cases h1 : decide (0 ≤ n) with
  | false =>
    simp (maxSteps := 2000000) (disch := first | omega | simp only [List.length_append, List.length_cons, List.length_nil, List.length_map] <;> omega) only [sf34, h1, flg_bool, swp_seq, swp_reg, swp_ret, seqK_n, evK_some, appK_eq, grd_t, srun_nil, srun_cons, stepK_grd, fin_ret, swpF_eq, sk_mv, sk_give, sk_pick, sk_bin, get_mk, raw_slot, raw_lit, put_some, wb_nil, ev_mv, ev_give, ev_pick, bin_geq, ro_int, ro_bool, List.map_cons, List.map_nil, List.getD_cons_zero, List.getD_cons_succ, List.set_cons_zero, List.set_cons_succ, List.length_cons, List.length_nil, List.replicate_succ, List.replicate_zero, List.cons_append, List.nil_append, Nat.reduceAdd, Nat.reduceSub, Bool.false_eq_true, ↓reduceIte, Nat.zero_add, ge_iff_le]
    first | exact ⟨_, .same⟩ | exact ⟨_, .same, rfl⟩ | exact ⟨_, .same, rfl, rfl⟩
  | true =>
    simp (maxSteps := 2000000) (disch := first | omega | simp only [List.length_append, List.length_cons, List.length_nil, List.length_map] <;> omega) only [sf34, h1, flg_bool, exc_int, swp_seq, swp_reg, swp_ret, seqK_n, evK_some, appK_eq, grd_t, srun_nil, srun_cons, stepK_grd, fin_ret, swpF_eq, sk_mv, sk_take, sk_give, sk_pick, sk_bin, get_mk, raw_slot, raw_lit, put_some, wb_nil, ev_mv, ev_take, ev_give, ev_pick, bin_leq, bin_geq, ro_int, ro_bool, got_int, List.map_cons, List.map_nil, List.getD_cons_zero, List.getD_cons_succ, List.set_cons_zero, List.set_cons_succ, List.length_cons, List.length_nil, List.replicate_succ, List.replicate_zero, List.cons_append, List.nil_append, Nat.reduceAdd, Nat.reduceSub, Bool.false_eq_true, ↓reduceIte, Nat.zero_add, ge_iff_le]
    first | exact ⟨_, .same⟩ | exact ⟨_, .same, rfl⟩ | exact ⟨_, .same, rfl, rfl⟩
def O31 : Orc := O30.add 34 (FnC fun args r => ∃ n most : Int, args = [.int .i64 n, .int .i64 most] ∧ r = .bool (wth most n))
theorem s31 : Sound Tryd.prog O31 := s30.addP c34 (by kernel_rfl) (by
  rintro args r ⟨n, most, rfl, rfl⟩
  exact ⟨by simp [sf34], fun st => g35 _ n most st⟩)
end Go.Sh.F
namespace Go.Sh.F
open Go.PathLaw Go.Proofs
structure Pc where
  path : List UInt8
  has : Bool
  size : Int
  cv : SV
  ch : List Int
  dig : Int
  cl : Int
  cr : Int
def Pc.cells (p : Pc) : List SV := [.str p.path, .bool p.has, .int .i64 p.size, p.cv, .int .i64 p.dig, .int .i64 p.cl, .int .i64 p.cr]
def Pc.ok (st : List Ob) (p : Pc) : Prop := RowI st p.cv p.ch ∧ p.ch.length ≤ 268435456 ∧ sm p.path
theorem Pc.ok.mono {st : List Ob} {p : Pc} (h : p.ok st) (x : List Ob) : p.ok (st ++ x) := ⟨RowAt.mono h.1 x, h.2⟩
structure Mf where
  au : Int
  ve : Int
  pr : Int
  ep : Int
  ne : Int
  se : Int
  sh : Int
  pv : SV
  ps : List Pc
def Mf.cells (m : Mf) : List SV := [.int .i64 m.au, .int .i64 m.ve, .int .i64 m.pr, .int .i64 m.ep, .int .i64 m.ne, .int .i64 m.se, .int .i64 m.sh, m.pv]
def Mf.ok (st : List Ob) (m : Mf) : Prop := RowAt st m.pv 7 m.ps.length (m.ps.flatMap Pc.cells) ∧ m.ps.length ≤ 268435456 ∧ ∀ p ∈ m.ps, p.ok st
theorem Mf.ok.mono {st : List Ob} {m : Mf} (h : m.ok st) (x : List Ob) : m.ok (st ++ x) := ⟨RowAt.mono h.1 x, h.2.1, fun p hp => (h.2.2 p hp).mono x⟩
theorem pc_len (l : List Pc) : ∀ z ∈ l, (Pc.cells z).length = 7 := fun _ _ => rfl
abbrev MX : Int := 4294967295
def rightP (p : Pc) : Bool := rightB p.path && clockB p.cl p.cr && !(p.cl == 0 && p.cr == 0) &&
  (if p.has then wth 600 p.size && ((p.ch.length : Int) == countF p.size) && wth MX p.dig && p.ch.all (wth MX) else p.size == 0 && p.dig == 0 && (p.ch.length : Int) == 0)
def rows : List Pc → Bool
  | [] => true
  | [p] => rightP p
  | p :: q :: r => rightP p && lt p.path q.path && rows (q :: r)
def headM (m : Mf) : Bool := wth 1 m.au && (decide (1 ≤ m.ve) && decide (m.ve ≤ 200)) && wth MX m.pr && wth MX m.se && wth MX m.sh && wth 100 m.ep && wth 100 m.ne && (m.ne == m.ep || m.ne == m.ep + 1)
def rightM (m : Mf) : Bool := headM m && rows m.ps && decide (m.ps.length ≤ 32)
structure Cu where
  ve : Int
  he : Int
  ep : Int
  ak : Int
def Cu.cells (c : Cu) : List SV := [.int .i64 c.ve, .int .i64 c.he, .int .i64 c.ep, .int .i64 c.ak]
def Mf.none : Mf := ⟨0, 0, 0, 0, 0, 0, 0, .nilS, []⟩
theorem Mf.none_ok (st : List Ob) : Mf.none.ok st := ⟨RowAt.nil, by simp [Mf.none], by simp [Mf.none]⟩
end Go.Sh.F
namespace Go.Sh.F
open Go.PathLaw Go.Proofs
theorem phz : (7777 : Nat) + 1 = 7778 := rfl
theorem bf (b : Bool) : b = false ∨ b = true := by cases b <;> simp
theorem bt (b : Bool) : b = true ∨ b = false := by cases b <;> simp
theorem nbI (a b : Int) : (a != b) = !(a == b) := rfl
theorem cv_agg {l : List SV} : cellsV (.agg l) = l := rfl
theorem cv_int {k : IntKind} {x : Int} : cellsV (.int k x) = [.int k x] := rfl
theorem cv_str {x : List UInt8} : cellsV (.str x) = [.str x] := rfl
theorem cv_bool {x : Bool} : cellsV (.bool x) = [.bool x] := rfl
theorem cv_fn {f : _} {a : _} {l : _} : cellsV (.fn f a l) = [.fn f a l] := rfl
theorem cv_nilS : cellsV .nilS = [.nilS] := rfl
theorem cv_nilF : cellsV .nilF = [.nilF] := rfl
theorem cv_nilP : cellsV .nilP = [.nilP] := rfl
theorem cv_ptr {a b : Nat} : cellsV (.ptr a b) = [.ptr a b] := rfl
theorem cv_sl {a : List SV} {b : Nat} {c : Fl} : cellsV (.sl a b c) = [.sl a b c] := rfl
theorem cv_slo {a b c : Nat} : cellsV (.slo a b c) = [.slo a b c] := rfl
theorem cell_fn {f : _} {a : _} {l : _} : isCell (.fn f a l) = true := rfl
theorem _root_.Go.Sh.RowAt.cv {st : List Ob} {v : SV} {es n : Nat} {cs : List SV} (h : RowAt st v es n cs) : cellsV v = [v] := by
  obtain ⟨h1, ⟨rfl, _⟩ | ⟨fl, rfl | rfl, rfl⟩ | ⟨id, off, l, rfl, _⟩⟩ := h <;> rfl
theorem cell_str {x : List UInt8} : isCell (.str x) = true := rfl
theorem cell_int {k : IntKind} {x : Int} : isCell (.int k x) = true := rfl
theorem cell_bool {x : Bool} : isCell (.bool x) = true := rfl
theorem cell_nilS : isCell .nilS = true := rfl
theorem eq_pair {st : List Ob} {n : Bool} {k : IntKind} {a b c d : Int} : ev st (.eqA n [.i, .i]) [.agg [.int k a, .int k b], .agg [.int k c, .int k d]] = some (.bool (if n then !(a == c && b == d) else a == c && b == d), [], st) := by
  rw [ev_eqA, eqKs_i, eqKs_i, eqKs_nil]
  cases h1 : (a == c) <;> cases h2 : (b == d) <;> cases n <;> rfl
theorem eq_four {st : List Ob} {n : Bool} {k : IntKind} {a b c d a' b' c' d' : Int} : ev st (.eqA n [.i, .i, .i, .i]) [.agg [.int k a, .int k b, .int k c, .int k d], .agg [.int k a', .int k b', .int k c', .int k d']] = some (.bool (if n then !(a == a' && b == b' && c == c' && d == d') else (a == a' && b == b' && c == c' && d == d')), [], st) := by
  rw [ev_eqA, eqKs_i, eqKs_i, eqKs_i, eqKs_i, eqKs_nil]
  cases h1 : (a == a') <;> cases h2 : (b == b') <;> cases h3 : (c == c') <;> cases h4 : (d == d') <;> cases n <;> rfl
theorem idOks_pc {st : List Ob} {p : Pc} (h : p.ok st) : idOks st.length p.cells = true := by
  have := RowI.idOk h.1
  simp only [Pc.cells, idOks, idOk, this, Bool.and_self]
theorem okP {st : List Ob} {p : Pc} (h : p.ok st) (ho : okSt st) : okSt (st ++ [.cells p.cells]) := by
  refine okSt_appL ho ?_
  have := idOks_pc (h.mono [.cells p.cells])
  rw [List.length_append] at this
  simp only [List.all_cons, List.all_nil, Bool.and_true, obOk]
  exact this
theorem r41 {s : List UInt8} (hs : sm s) {st : List Ob} : O31 54 [.str s] st (.bool (rightB s)) st := (.inl (.inl (.inl (.inl (.inl (.inl (.inl (.inl (.inl (p16 hs st))))))))))
theorem r44 {s : List UInt8} (hs : sm s) {st : List Ob} : O31 56 [.str s] st (.bool (rightB s)) st := (.inl (.inl (.inl (.inl (.inl (.inl (.inl (.inl (.inl (p17 hs st))))))))))
theorem r26 {v : SV} {l : List Int} {most : Int} {st : List Ob} (hv : RowI st v l) (hl : l.length ≤ 1099511627776) (ho : okSt st) : O31 32 [.int .i64 most, v] st (.bool (l.all (wth most))) st := (by repeat first | exact Or.inr ⟨rfl, rfl, v, l, most, hv, hl, ho, rfl, rfl⟩ | refine Or.inl ?_)
theorem r26a {x most : Int} {st : List Ob} {f : Fl} (hf : f = .ro ∨ f = .full) (ho : okSt st) : O31 32 [.int .i64 most, .sl [.int .i64 x] 1 f] st (.bool (wth most x)) st := by
  have := r26 (v := .sl [.int .i64 x] 1 f) (l := [x]) (most := most) (st := st) (RowI.mk hf rfl) (by simp) ho
  simpa using this
theorem r26b {x y most : Int} {st : List Ob} {f : Fl} (hf : f = .ro ∨ f = .full) (ho : okSt st) : O31 32 [.int .i64 most, .sl [.int .i64 x, .int .i64 y] 2 f] st (.bool (wth most x && wth most y)) st := by
  have := r26 (v := .sl [.int .i64 x, .int .i64 y] 2 f) (l := [x, y]) (most := most) (st := st) (RowI.mk hf rfl) (by simp) ho
  simpa using this
theorem r26c {x y z most : Int} {st : List Ob} {f : Fl} (hf : f = .ro ∨ f = .full) (ho : okSt st) : O31 32 [.int .i64 most, .sl [.int .i64 x, .int .i64 y, .int .i64 z] 3 f] st (.bool (wth most x && (wth most y && wth most z))) st := by
  have := r26 (v := .sl [.int .i64 x, .int .i64 y, .int .i64 z] 3 f) (l := [x, y, z]) (most := most) (st := st) (RowI.mk hf rfl) (by simp) ho
  simpa using this
theorem r42 {a b : Int} {st : List Ob} (ho : okSt st) : O31 55 [.agg [.int .i64 a, .int .i64 b]] st (.bool (clockB a b)) st := (by repeat first | exact Or.inr ⟨rfl, rfl, a, b, ho, rfl, rfl⟩ | refine Or.inl ?_)
theorem r45 {a b : Int} {st : List Ob} (ho : okSt st) : O31 57 [.agg [.int .i64 a, .int .i64 b]] st (.bool (clockB a b)) st := (by repeat first | exact Or.inr ⟨rfl, rfl, a, b, ho, rfl, rfl⟩ | refine Or.inl ?_)
theorem r43 {n : Int} (hn : n ≤ 9223372036854775807) {st : List Ob} : O31 24 [.int .i64 n] st (.int .i64 (countF n)) st := (by repeat first | exact Or.inr ⟨rfl, rfl, n, hn, rfl, rfl⟩ | refine Or.inl ?_)
theorem r46 {n : Int} (hn : n ≤ 9223372036854775807) {st : List Ob} : O31 58 [.int .i64 n] st (.int .i64 (countF n)) st := (by repeat first | exact Or.inr ⟨rfl, rfl, n, hn, rfl, rfl⟩ | refine Or.inl ?_)
theorem r35 {n most : Int} {st : List Ob} : O31 34 [.int .i64 n, .int .i64 most] st (.bool (wth most n)) st := (by repeat first | exact Or.inr ⟨rfl, rfl, n, most, rfl, rfl⟩ | refine Or.inl ?_)
set_option maxHeartbeats 8000000 in
theorem g27 (p : Pc) (st : List Ob) (hp : p.ok st) (ho : okSt st) : swpF O31 sf33 [.agg p.cells] st (fun r st' => r = .bool (rightP p) ∧ st' = st) := by
  have o1 := okP hp ho
  obtain ⟨path, has, size, cv, ch, dig, cl, cr⟩ := p
  obtain ⟨hv, hl, hs⟩ := hp
  have hv1 := RowAt.mono hv [.cells [.str path, .bool has, .int .i64 size, cv, .int .i64 dig, .int .i64 cl, .int .i64 cr]]
  obtain ⟨q1, q2, q3, q4, q6, q7⟩ := hv.facts
  have q5 := hv.lenL
  simp only [Pc.cells] at o1 ⊢
  simp only at hv hv1 hl hs q1 q2 q3 q4 q5 q6 q7
  simp (maxSteps := 2000000) (disch := first | omega | simp only [List.length_append, List.length_cons, List.length_nil, List.length_map] <;> omega) only [sf33, q6, q7, cv_agg, cell_str, cell_int, cell_bool, getA0, Nat.add_zero, List.set_cons_zero, List.set_cons_succ, flg_bool, exc_str, exc_agg, swp_seq, swp_reg, swp_block, seqK_n, evK_some, appK_eq, srun_nil, srun_cons, stepK_call, swpF_eq, sk_give, sk_fld, sk_load, sk_box, get_mk, raw_slot, raw_lit, put_some, wb_nil, ev_give, ev_fld, ev_box, ev_ldP, ldP_some, ro_bool, ro_str, ro1_int, ro1_str, ro1_bool, got_str, got_agg, pubs, pubsFrom, List.map_cons, List.map_nil, List.getD_cons_zero, List.getD_cons_succ, List.getElem?_cons_zero, List.length_cons, List.length_nil, List.replicate_succ, List.replicate_zero, List.cons_append, List.nil_append, Nat.reduceSub, Bool.false_eq_true, Option.map_some, ↓reduceIte, List.all_cons, List.all_nil, Bool.and_self, Nat.zero_add]
  refine callK_intro (r41 hs) ?_
  rcases bf (rightB path) with h1 | h1
  · rw [h1]
    simp (maxSteps := 2000000) (disch := first | omega | simp only [List.length_append, List.length_cons, List.length_nil, List.length_map] <;> omega) only [List.set_cons_zero, List.set_cons_succ, flg_bool, swp_seq, swp_reg, swp_ret, swp_cond, seqK_n, seqK_r, blkK_r, condK_t, evK_some, appK_eq, appC_eq, grd_t, srun_nil, srun_cons, stepK_grd, fin_ret, sk_mv, sk_give, sk_pick, sk_un, get_mk, raw_slot, raw_lit, put_some, wb_nil, ev_mv, ev_give, ev_pick, ev_not, ro_bool, List.map_cons, List.map_nil, List.getD_cons_zero, List.getD_cons_succ, Bool.false_eq_true, ↓reduceIte, reduceCtorEq, Bool.not_false]
    first | exact ⟨_, trim1 ho rfl, by simp [rightP, h1], rfl⟩ | exact ⟨_, trim1 ho rfl, by simp [rightP, h1]⟩ | exact ⟨_, .same, by simp [rightP, h1], rfl⟩
  rw [h1]
  simp (maxSteps := 2000000) (disch := first | omega | simp only [List.length_append, List.length_cons, List.length_nil, List.length_map] <;> omega) only [getA0, ev_ldA, List.drop_succ_cons, List.drop_zero, List.take_succ_cons, List.take_zero, List.set_cons_zero, List.set_cons_succ, apO_some, exc_agg, evK_some, appK_eq, appC_eq, grd_t, srun_cons, stepK_call, stepK_grd, sk_mv, sk_un, sk_fld, sk_load, get_mk, raw_slot, put_some, wb_nil, ev_mv, ev_not, ev_fld, ro_bool, ro_agg, ro1_int, got_agg, pubs, pubsFrom, List.map_cons, List.map_nil, List.getD_cons_zero, List.getD_cons_succ, List.getElem?_cons_zero, List.length_cons, List.length_nil, Nat.reduceAdd, Bool.false_eq_true, ↓reduceIte, Nat.zero_add, Bool.not_true, Nat.le_refl]
  refine callK_intro (r42 o1) ?_
  rcases bf (clockB cl cr) with h2 | h2
  · rw [h2]
    simp (maxSteps := 2000000) (disch := first | omega | simp only [List.length_append, List.length_cons, List.length_nil, List.length_map] <;> omega) only [List.set_cons_zero, List.set_cons_succ, flg_bool, swp_seq, swp_reg, swp_ret, swp_cond, seqK_n, seqK_r, blkK_r, condK_t, evK_some, appK_eq, appC_eq, grd_t, srun_nil, srun_cons, stepK_grd, fin_ret, sk_mv, sk_give, sk_pick, sk_un, get_mk, raw_slot, raw_lit, put_some, wb_nil, ev_mv, ev_give, ev_pick, ev_not, ro_bool, List.map_cons, List.map_nil, List.getD_cons_zero, List.getD_cons_succ, Bool.false_eq_true, ↓reduceIte, reduceCtorEq, Bool.not_false]
    first | exact ⟨_, trim1 ho rfl, by simp [rightP, h1, h2], rfl⟩ | exact ⟨_, trim1 ho rfl, by simp [rightP, h1, h2]⟩ | exact ⟨_, .same, by simp [rightP, h1, h2], rfl⟩
  rw [h2]
  rcases bt (cl == 0 && cr == 0) with h3 | h3
  · simp (maxSteps := 2000000) (disch := first | omega | simp only [List.length_append, List.length_cons, List.length_nil, List.length_map] <;> omega) only [h3, eq_pair, getA0, ev_ldA, List.drop_succ_cons, List.drop_zero, List.take_succ_cons, List.take_zero, List.set_cons_zero, List.set_cons_succ, apO_some, flg_bool, swp_seq, swp_reg, swp_ret, swp_cond, seqK_n, seqK_r, blkK_r, condK_t, evK_some, appK_eq, appC_eq, grd_t, srun_nil, srun_cons, stepK_grd, fin_ret, sk_mv, sk_give, sk_pick, sk_eqA, sk_un, sk_fld, sk_load, sk_bld, get_mk, raw_slot, raw_lit, put_some, wb_nil, ev_mv, ev_give, ev_pick, ev_not, ev_fld, ev_bld, ro_bool, ro_agg, ro1_int, pubs, pubsFrom, List.map_cons, List.map_nil, List.getD_cons_zero, List.getD_cons_succ, List.getElem?_cons_zero, List.length_cons, List.length_nil, Nat.reduceAdd, Bool.false_eq_true, Option.map_some, ↓reduceIte, List.zip_nil_right, fillV, Nat.zero_add, Bool.not_true, Nat.le_refl]
    first | exact ⟨_, trim1 ho rfl, by simp [rightP, h1, h2, h3], rfl⟩ | exact ⟨_, trim1 ho rfl, by simp [rightP, h1, h2, h3]⟩ | exact ⟨_, .same, by simp [rightP, h1, h2, h3], rfl⟩
  cases has with
  | false =>
    have h5 := phz
    have h6 := phz
    rcases bf (size == 0) with h5 | h5
    rotate_left
    rcases bf (dig == 0) with h6 | h6
    all_goals simp (maxSteps := 2000000) (disch := first | omega | simp only [List.length_append, List.length_cons, List.length_nil, List.length_map] <;> omega) only [h3, h5, h6, q1, q5, eq_pair, getA0, ev_ldA, List.drop_succ_cons, List.drop_zero, List.take_succ_cons, List.take_zero, List.set_cons_zero, List.set_cons_succ, apO_some, flg_bool, swp_seq, swp_reg, swp_ret, swp_cond, seqK_n, seqK_r, blkK_r, condK_t, condK_f, evK_some, appK_eq, appC_eq, grd_t, srun_nil, srun_cons, stepK_grd, fin_ret, sk_mv, sk_give, sk_pick, sk_bin, sk_eqA, sk_un, sk_fld, sk_load, sk_lenL, sk_bld, get_mk, raw_slot, raw_lit, put_some, wb_nil, ev_mv, ev_give, ev_pick, ev_not, ev_fld, bin_eql, ev_bld, ev_ldP, ldP_some, ro_int, ro_bool, ro_agg, ro1_int, pubs, pubsFrom, List.map_cons, List.map_nil, List.getD_cons_zero, List.getD_cons_succ, List.getElem?_cons_zero, List.getElem?_cons_succ, List.length_cons, List.length_nil, Nat.reduceAdd, Bool.false_eq_true, Option.map_some, ↓reduceIte, List.zip_nil_right, fillV, Nat.zero_add, Bool.not_true, Bool.not_false, Nat.le_refl]
    all_goals first | exact ⟨_, trim1 ho rfl, by simp [rightP, h1, h2, h3, h5, h6], rfl⟩ | exact ⟨_, trim1 ho rfl, by simp [rightP, h1, h2, h3, h5, h6]⟩ | exact ⟨_, .same, by simp [rightP, h1, h2, h3, h5, h6], rfl⟩
  | true =>
    simp (maxSteps := 2000000) (disch := first | omega | simp only [List.length_append, List.length_cons, List.length_nil, List.length_map] <;> omega) only [h3, cv_int, eq_pair, cell_int, getA0, ev_ldA, List.drop_succ_cons, List.drop_zero, List.take_succ_cons, List.take_zero, List.set_cons_zero, List.set_cons_succ, pub_excl2, apO_some, flg_bool, exc_int, exc_excl, swp_seq, swp_reg, swp_skip, swp_cond, seqK_n, blkK_n, condK_f, evK_some, appK_eq, appC_eq, grd_t, srun_nil, srun_cons, stepK_call, stepK_grd, sk_mv, sk_give, sk_pick, sk_eqA, sk_un, sk_fld, sk_load, sk_bsl, sk_bld, get_mk, raw_slot, raw_lit, put_some, wb_nil, ev_mv, ev_give, ev_pick, ev_not, ev_fld, ev_bsl, ev_bld, ev_ldP, ldP_some, ro_int, ro_bool, ro_agg, ro1_int, got_excl, got_int, pubs, pubsFrom, List.map_cons, List.map_nil, List.getD_cons_zero, List.getD_cons_succ, List.getElem?_cons_zero, List.getElem?_cons_succ, List.length_cons, List.length_nil, List.replicate_succ, List.replicate_zero, Nat.reduceAdd, Nat.reduceLT, and_true, Bool.false_eq_true, Option.map_some, ↓reduceIte, List.all_cons, List.all_nil, Bool.and_self, List.zip_cons_cons, List.zip_nil_right, rep, fillV, wrCells, List.flatten_cons, List.flatten_nil, List.append_nil, decide_true, Nat.mul_one, Nat.zero_add, Bool.not_true, Nat.le_refl]
    refine callK_intro (r26a (by simp) o1) ?_
    rcases bf (wth 600 size) with h4 | h4
    · rw [h4]
      simp (maxSteps := 2000000) (disch := first | omega | simp only [List.length_append, List.length_cons, List.length_nil, List.length_map] <;> omega) only [List.set_cons_zero, List.set_cons_succ, flg_bool, swp_ret, seqK_n, evK_some, appK_eq, appC_eq, grd_t, srun_nil, srun_cons, stepK_grd, fin_ret, sk_mv, sk_give, sk_pick, get_mk, raw_slot, raw_lit, put_some, wb_nil, wb_cons, ev_mv, ev_give, ev_pick, ro_bool, List.map_cons, List.map_nil, List.getD_cons_zero, List.getD_cons_succ, List.getElem?_cons_zero, List.getElem?_cons_succ, Bool.false_eq_true, ↓reduceIte]
      first | exact ⟨_, trim1 ho rfl, by simp [rightP, h1, h2, h3, h4], rfl⟩ | exact ⟨_, trim1 ho rfl, by simp [rightP, h1, h2, h3, h4]⟩ | exact ⟨_, .same, by simp [rightP, h1, h2, h3, h4], rfl⟩
    rw [h4]
    have hsz : size ≤ 9223372036854775807 := by
      simp only [wth, Bool.and_eq_true, decide_eq_true_eq] at h4; omega
    simp (maxSteps := 2000000) (disch := first | omega | simp only [List.length_append, List.length_cons, List.length_nil, List.length_map] <;> omega) only [q1, q5, getA0, List.set_cons_zero, List.set_cons_succ, stepK_callp, exc_int, evK_some, appK_eq, appC_eq, grd_t, srun_cons, stepK_grd, sk_mv, sk_bin, sk_fld, sk_load, sk_lenL, get_mk, raw_slot, put_some, wb_nil, wb_cons, ev_mv, ev_fld, ev_ldP, ldP_some, ro_int, ro_bool, got_int, pubs, pubsFrom, List.map_cons, List.map_nil, List.getD_cons_zero, List.getD_cons_succ, List.getElem?_cons_zero, List.getElem?_cons_succ, Bool.false_eq_true, Option.map_some, ↓reduceIte, Nat.zero_add]
    refine callpK_intro (fun _ => r43 hsz) ?_
    rcases bf ((ch.length : Int) == countF size) with h5 | h5
    · simp (maxSteps := 2000000) (disch := first | omega | simp only [List.length_append, List.length_cons, List.length_nil, List.length_map] <;> omega) only [h5, List.set_cons_zero, List.set_cons_succ, flg_bool, swp_ret, seqK_n, evK_some, appK_eq, grd_t, srun_nil, srun_cons, stepK_grd, fin_ret, sk_mv, sk_give, sk_pick, get_mk, raw_slot, raw_lit, put_some, wb_nil, ev_mv, ev_give, ev_pick, bin_eql, ro_bool, List.map_cons, List.map_nil, List.getD_cons_zero, List.getD_cons_succ, Bool.false_eq_true, ↓reduceIte]
      first | exact ⟨_, trim1 ho rfl, by simp [rightP, h1, h2, h3, h4, h5], rfl⟩ | exact ⟨_, trim1 ho rfl, by simp [rightP, h1, h2, h3, h4, h5]⟩ | exact ⟨_, .same, by simp [rightP, h1, h2, h3, h4, h5], rfl⟩
    simp (maxSteps := 2000000) (disch := first | omega | simp only [List.length_append, List.length_cons, List.length_nil, List.length_map] <;> omega) only [h5, cv_int, cell_int, getA0, List.set_cons_zero, List.set_cons_succ, pub_excl2, exc_int, exc_excl, evK_some, appK_eq, grd_t, srun_cons, stepK_call, stepK_grd, sk_mv, sk_pick, sk_fld, sk_load, sk_bsl, get_mk, raw_slot, raw_lit, put_some, wb_nil, ev_mv, ev_pick, ev_fld, bin_eql, ev_bsl, ev_ldP, ldP_some, ro_int, ro_bool, got_excl, got_int, pubs, pubsFrom, List.map_cons, List.map_nil, List.getD_cons_zero, List.getD_cons_succ, List.getElem?_cons_zero, List.getElem?_cons_succ, List.length_cons, List.length_nil, List.replicate_succ, List.replicate_zero, Nat.reduceLT, and_true, Bool.false_eq_true, Option.map_some, ↓reduceIte, List.all_cons, List.all_nil, Bool.and_self, List.zip_cons_cons, List.zip_nil_right, rep, fillV, wrCells, List.flatten_cons, List.flatten_nil, List.append_nil, decide_true, Nat.mul_one, Nat.zero_add, Nat.le_refl]
    refine callK_intro (r26a (by simp) o1) ?_
    rcases bf (wth 4294967295 dig) with h6 | h6
    · rw [h6]
      simp (maxSteps := 2000000) (disch := first | omega | simp only [List.length_append, List.length_cons, List.length_nil, List.length_map] <;> omega) only [List.set_cons_zero, List.set_cons_succ, flg_bool, swp_ret, seqK_n, evK_some, appK_eq, appC_eq, grd_t, srun_nil, srun_cons, stepK_grd, fin_ret, sk_mv, sk_give, sk_pick, get_mk, raw_slot, raw_lit, put_some, wb_nil, wb_cons, ev_mv, ev_give, ev_pick, ro_bool, List.map_cons, List.map_nil, List.getD_cons_zero, List.getD_cons_succ, List.getElem?_cons_zero, List.getElem?_cons_succ, Bool.false_eq_true, ↓reduceIte]
      first | exact ⟨_, trim1 ho rfl, by simp [rightP, h1, h2, h3, h4, h5, h6], rfl⟩ | exact ⟨_, trim1 ho rfl, by simp [rightP, h1, h2, h3, h4, h5, h6]⟩ | exact ⟨_, .same, by simp [rightP, h1, h2, h3, h4, h5, h6], rfl⟩
    rw [h6]
    simp (maxSteps := 2000000) (disch := first | omega | simp only [List.length_append, List.length_cons, List.length_nil, List.length_map] <;> omega) only [q1, q2, q3, getA0, List.set_cons_zero, List.set_cons_succ, exc_int, evK_some, appK_eq, appC_eq, grd_t, srun_cons, stepK_call, stepK_grd, sk_mv, sk_pick, sk_fld, sk_load, get_mk, raw_slot, raw_lit, put_some, wb_nil, wb_cons, ev_mv, ev_pick, ev_fld, ev_ldP, ldP_some, ro_bool, got_int, pubs, pubsFrom, List.map_cons, List.map_nil, List.getD_cons_zero, List.getD_cons_succ, List.getElem?_cons_zero, List.getElem?_cons_succ, Bool.false_eq_true, Option.map_some, ↓reduceIte, Nat.zero_add]
    refine callK_intro (r26 hv1 (by omega) o1) ?_
    simp (maxSteps := 2000000) (disch := first | omega | simp only [List.length_append, List.length_cons, List.length_nil, List.length_map] <;> omega) only [List.set_cons_zero, List.set_cons_succ, flg_bool, swp_ret, seqK_n, evK_some, appK_eq, appC_eq, srun_nil, srun_cons, fin_ret, sk_give, sk_pick, get_mk, raw_slot, raw_lit, put_some, wb_nil, ev_give, ev_pick, ro_bool, List.map_cons, List.map_nil, List.getD_cons_zero, List.getD_cons_succ, Bool.false_eq_true, ↓reduceIte]
    first | exact ⟨_, trim1 ho rfl, by simp [rightP, h1, h2, h3, h4, h5, h6], rfl⟩ | exact ⟨_, trim1 ho rfl, by simp [rightP, h1, h2, h3, h4, h5, h6]⟩ | exact ⟨_, .same, by simp [rightP, h1, h2, h3, h4, h5, h6], rfl⟩
def KPiece : List Ob → List SV → SV → Prop := fun st args r => ∃ p : Pc, p.ok st ∧ okSt st ∧ args = [.agg p.cells] ∧ r = .bool (rightP p)
def O32 : Orc := O31.add 33 (StC KPiece)
theorem s32 : Sound Tryd.prog O32 := s31.addS c33 (by kernel_rfl) (by
  rintro args r st ⟨p, hp, ho, rfl, rfl⟩
  exact ⟨by simp [sf33], g27 p st hp ho⟩)
theorem all_iff {l : List Int} {p : Int → Bool} : l.all p = true ↔ ∀ (j : Nat) (x : Int), l[j]? = some x → p x = true := by
  rw [List.all_eq_true]
  constructor
  · intro h j x hx
    exact h x (List.mem_of_getElem? hx)
  · intro h x hx
    obtain ⟨j, hj⟩ := List.getElem?_of_mem hx
    exact h j x hj
set_option maxHeartbeats 8000000 in
theorem g36 (p : Pc) (st : List Ob) (hp : p.ok st) (ho : okSt st) : swpF O32 sf35 [.agg p.cells] st (fun r st' => r = .bool (rightP p) ∧ st' = st) := by
  have o1 := okP hp ho
  obtain ⟨path, has, size, cv, ch, dig, cl, cr⟩ := p
  obtain ⟨hv, hl, hs⟩ := hp
  have hv1 := RowAt.mono hv [.cells [.str path, .bool has, .int .i64 size, cv, .int .i64 dig, .int .i64 cl, .int .i64 cr]]
  obtain ⟨q1, q2, q3, q4, q6, q7⟩ := hv.facts
  have q5 := hv.lenL
  simp only [Pc.cells] at o1 ⊢
  simp only at hv hv1 hl hs q1 q2 q3 q4 q5 q6 q7
  simp (maxSteps := 2000000) (disch := first | omega | simp only [List.length_append, List.length_cons, List.length_nil, List.length_map] <;> omega) only [sf35, q6, q7, cv_agg, cell_str, cell_int, cell_bool, getA0, Nat.add_zero, List.set_cons_zero, List.set_cons_succ, flg_bool, exc_str, exc_agg, swp_seq, swp_reg, seqK_n, evK_some, appK_eq, srun_nil, srun_cons, stepK_call, swpF_eq, sk_give, sk_fld, sk_load, sk_box, get_mk, raw_slot, raw_lit, put_some, wb_nil, ev_give, ev_fld, ev_box, ev_ldP, ldP_some, ro_bool, ro_str, ro1_int, ro1_str, ro1_bool, got_str, got_agg, pubs, pubsFrom, List.map_cons, List.map_nil, List.getD_cons_zero, List.getD_cons_succ, List.getElem?_cons_zero, List.length_cons, List.length_nil, List.replicate_succ, List.replicate_zero, List.cons_append, List.nil_append, Nat.reduceSub, Bool.false_eq_true, Option.map_some, ↓reduceIte, List.all_cons, List.all_nil, Bool.and_self, Nat.zero_add]
  refine callK_intro (.inl (r44 hs)) ?_
  simp (maxSteps := 2000000) (disch := first | omega | simp only [List.length_append, List.length_cons, List.length_nil, List.length_map] <;> omega) only [getA0, ev_ldA, List.drop_succ_cons, List.drop_zero, List.take_succ_cons, List.take_zero, List.set_cons_zero, List.set_cons_succ, apO_some, flg_bool, exc_agg, swp_seq, swp_reg, seqK_n, evK_some, appK_eq, appC_eq, srun_nil, srun_cons, stepK_call, sk_give, sk_fld, sk_load, get_mk, raw_slot, put_some, wb_nil, ev_give, ev_fld, ro_bool, ro_agg, ro1_int, got_agg, pubs, pubsFrom, List.map_cons, List.map_nil, List.getD_cons_zero, List.getD_cons_succ, List.getElem?_cons_zero, List.length_cons, List.length_nil, Nat.reduceAdd, Bool.false_eq_true, ↓reduceIte, Nat.zero_add, Nat.le_refl]
  refine callK_intro (.inl (r45 o1)) ?_
  rcases bf (rightB path) with h1 | h1
  · rw [h1]
    simp (maxSteps := 2000000) (disch := first | omega | simp only [List.length_append, List.length_cons, List.length_nil, List.length_map] <;> omega) only [List.set_cons_zero, List.set_cons_succ, flg_bool, grd_s, swp_seq, swp_reg, swp_ret, swp_cond, seqK_n, seqK_r, condK_t, evK_some, appK_eq, appC_eq, grd_t, srun_nil, srun_cons, stepK_grd, fin_ret, sk_mv, sk_give, sk_pick, sk_un, get_mk, raw_slot, raw_lit, put_some, wb_nil, ev_mv, ev_give, ev_pick, ev_not, ro_bool, List.map_cons, List.map_nil, List.getD_cons_zero, List.getD_cons_succ, Bool.false_eq_true, ↓reduceIte, reduceCtorEq, Bool.not_false]
    first | exact ⟨_, trim1 ho rfl, by simp [rightP, h1], rfl⟩ | exact ⟨_, trim1 ho rfl, by simp [rightP, h1]⟩ | exact ⟨_, .same, by simp [rightP, h1], rfl⟩
  rw [h1]
  rcases bf (clockB cl cr) with h2 | h2
  · rw [h2]
    simp (maxSteps := 2000000) (disch := first | omega | simp only [List.length_append, List.length_cons, List.length_nil, List.length_map] <;> omega) only [List.set_cons_zero, List.set_cons_succ, flg_bool, exc_bool, grd_s, swp_seq, swp_reg, swp_ret, swp_cond, seqK_n, seqK_r, condK_t, evK_some, appK_eq, appC_eq, grd_t, srun_nil, srun_cons, stepK_grd, fin_ret, sk_mv, sk_take, sk_give, sk_pick, sk_un, get_mk, raw_slot, raw_lit, put_some, wb_nil, ev_mv, ev_take, ev_give, ev_pick, ev_not, ro_bool, got_bool, List.map_cons, List.map_nil, List.getD_cons_zero, List.getD_cons_succ, Bool.false_eq_true, ↓reduceIte, reduceCtorEq, Bool.not_true, Bool.not_false]
    first | exact ⟨_, trim1 ho rfl, by simp [rightP, h1, h2], rfl⟩ | exact ⟨_, trim1 ho rfl, by simp [rightP, h1, h2]⟩ | exact ⟨_, .same, by simp [rightP, h1, h2], rfl⟩
  rw [h2]
  have h3 := phz
  have h4 := phz
  rcases bf (cl == 0) with h3 | h3
  rotate_left
  rcases bf (cr == 0) with h4 | h4
  rotate_left
  · simp (maxSteps := 2000000) (disch := first | omega | simp only [List.length_append, List.length_cons, List.length_nil, List.length_map] <;> omega) only [h3, h4, getA0, Nat.add_zero, List.set_cons_zero, List.set_cons_succ, flg_bool, exc_bool, swp_seq, swp_reg, swp_ret, swp_cond, seqK_n, seqK_r, condK_t, evK_some, appK_eq, appC_eq, grd_t, srun_nil, srun_cons, stepK_grd, fin_ret, sk_mv, sk_take, sk_give, sk_pick, sk_bin, sk_un, sk_fld, sk_load, get_mk, raw_slot, raw_lit, put_some, wb_nil, ev_mv, ev_take, ev_give, ev_pick, ev_not, ev_fld, bin_eql, ev_ldP, ldP_some, ro_int, ro_bool, got_bool, List.map_cons, List.map_nil, List.getD_cons_zero, List.getD_cons_succ, List.getElem?_cons_zero, List.getElem?_cons_succ, Nat.reduceAdd, Bool.false_eq_true, Option.map_some, ↓reduceIte, Nat.zero_add, Bool.not_true]
    first | exact ⟨_, trim1 ho rfl, by simp [rightP, h1, h2, h3, h4], rfl⟩ | exact ⟨_, trim1 ho rfl, by simp [rightP, h1, h2, h3, h4]⟩ | exact ⟨_, .same, by simp [rightP, h1, h2, h3, h4], rfl⟩
  all_goals
    have h34 : (cl == 0 && cr == 0) = false := by simp [h3, h4]
    cases has with
    | false =>
      have h5 := phz
      have h6 := phz
      rcases bf (size == 0) with h5 | h5
      rotate_left
      rcases bf (dig == 0) with h6 | h6
      all_goals
        simp (maxSteps := 2000000) (disch := first | omega | simp only [List.length_append, List.length_cons, List.length_nil, List.length_map] <;> omega) only [h3, h4, h5, h6, q1, q5, getA0, Nat.add_zero, List.set_cons_zero, List.set_cons_succ, flg_bool, exc_bool, swp_seq, swp_reg, swp_skip, swp_ret, swp_cond, seqK_n, seqK_r, condK_t, condK_f, evK_some, appK_eq, appC_eq, grd_t, srun_nil, srun_cons, stepK_grd, fin_ret, sk_mv, sk_take, sk_give, sk_pick, sk_bin, sk_un, sk_fld, sk_load, sk_lenL, get_mk, raw_slot, raw_lit, put_some, wb_nil, ev_mv, ev_take, ev_give, ev_pick, ev_not, ev_fld, bin_eql, ev_ldP, ldP_some, ro_int, ro_bool, got_bool, List.map_cons, List.map_nil, List.getD_cons_zero, List.getD_cons_succ, List.getElem?_cons_zero, List.getElem?_cons_succ, Nat.reduceAdd, Bool.false_eq_true, Option.map_some, ↓reduceIte, Nat.zero_add, Bool.not_true, Bool.not_false]
        first | exact ⟨_, trim1 ho rfl, by simp [rightP, h1, h2, h34, h5, h6], rfl⟩ | exact ⟨_, trim1 ho rfl, by simp [rightP, h1, h2, h34, h5, h6]⟩ | exact ⟨_, .same, by simp [rightP, h1, h2, h34, h5, h6], rfl⟩
    | true =>
      simp (maxSteps := 2000000) (disch := first | omega | simp only [List.length_append, List.length_cons, List.length_nil, List.length_map] <;> omega) only [h3, h4, getA0, Nat.add_zero, List.set_cons_zero, List.set_cons_succ, stepK_callp, flg_bool, exc_bool, exc_int, swp_seq, swp_reg, swp_skip, swp_cond, seqK_n, condK_f, evK_some, appK_eq, appC_eq, grd_t, srun_nil, srun_cons, stepK_grd, sk_mv, sk_take, sk_give, sk_pick, sk_bin, sk_un, sk_fld, sk_load, get_mk, raw_slot, raw_lit, put_some, wb_nil, ev_mv, ev_take, ev_give, ev_pick, ev_not, ev_fld, bin_eql, ev_ldP, ldP_some, ro_int, ro_bool, got_int, got_bool, pubs, pubsFrom, List.map_cons, List.map_nil, List.getD_cons_zero, List.getD_cons_succ, List.getElem?_cons_zero, List.getElem?_cons_succ, Nat.reduceAdd, Bool.false_eq_true, Option.map_some, ↓reduceIte, Nat.zero_add, Bool.not_true]
      refine callpK_intro (fun _ => .inl r35) ?_
      rcases bf (wth 600 size) with h5 | h5
      · rw [h5]
        simp (maxSteps := 2000000) (disch := first | omega | simp only [List.length_append, List.length_cons, List.length_nil, List.length_map] <;> omega) only [List.set_cons_zero, List.set_cons_succ, flg_bool, swp_seq, swp_reg, swp_ret, swp_cond, seqK_n, seqK_r, condK_t, evK_some, appK_eq, grd_t, srun_nil, srun_cons, stepK_grd, fin_ret, sk_mv, sk_give, sk_pick, get_mk, raw_slot, raw_lit, put_some, wb_nil, ev_mv, ev_give, ev_pick, ev_not, ro_bool, List.map_cons, List.map_nil, List.getD_cons_zero, List.getD_cons_succ, Bool.false_eq_true, ↓reduceIte, reduceCtorEq, Bool.not_false]
        first | exact ⟨_, trim1 ho rfl, by simp [rightP, h1, h2, h34, h5], rfl⟩ | exact ⟨_, trim1 ho rfl, by simp [rightP, h1, h2, h34, h5]⟩ | exact ⟨_, .same, by simp [rightP, h1, h2, h34, h5], rfl⟩
      rw [h5]
      have hsz : size ≤ 9223372036854775807 := by
        simp only [wth, Bool.and_eq_true, decide_eq_true_eq] at h5; omega
      simp (maxSteps := 2000000) (disch := first | omega | simp only [List.length_append, List.length_cons, List.length_nil, List.length_map] <;> omega) only [getA0, List.set_cons_zero, List.set_cons_succ, stepK_callp, exc_int, evK_some, appK_eq, appC_eq, grd_t, srun_cons, stepK_grd, sk_mv, sk_un, sk_fld, sk_load, get_mk, raw_slot, raw_lit, put_some, wb_nil, ev_mv, ev_not, ev_fld, ev_ldP, ldP_some, ro_int, ro_bool, got_int, pubs, pubsFrom, List.map_cons, List.map_nil, List.getD_cons_zero, List.getD_cons_succ, List.getElem?_cons_zero, List.getElem?_cons_succ, Bool.false_eq_true, Option.map_some, ↓reduceIte, Nat.zero_add, Bool.not_true]
      refine callpK_intro (fun _ => .inl r35) ?_
      rcases bf (wth 4294967295 dig) with h6 | h6
      · rw [h6]
        simp (maxSteps := 2000000) (disch := first | omega | simp only [List.length_append, List.length_cons, List.length_nil, List.length_map] <;> omega) only [List.set_cons_zero, List.set_cons_succ, flg_bool, swp_seq, swp_reg, swp_ret, swp_cond, seqK_n, seqK_r, condK_t, evK_some, appK_eq, grd_t, srun_nil, srun_cons, stepK_grd, fin_ret, sk_mv, sk_give, sk_pick, get_mk, raw_slot, raw_lit, put_some, wb_nil, ev_mv, ev_give, ev_pick, ev_not, ro_bool, List.map_cons, List.map_nil, List.getD_cons_zero, List.getD_cons_succ, Bool.false_eq_true, ↓reduceIte, reduceCtorEq, Bool.not_false]
        first | exact ⟨_, trim1 ho rfl, by simp [rightP, h1, h2, h34, h5, h6], rfl⟩ | exact ⟨_, trim1 ho rfl, by simp [rightP, h1, h2, h34, h5, h6]⟩ | exact ⟨_, .same, by simp [rightP, h1, h2, h34, h5, h6], rfl⟩
      rw [h6]
      simp (maxSteps := 2000000) (disch := first | omega | simp only [List.length_append, List.length_cons, List.length_nil, List.length_map] <;> omega) only [q1, q5, getA0, List.set_cons_zero, List.set_cons_succ, stepK_callp, exc_int, evK_some, appK_eq, appC_eq, grd_t, srun_cons, stepK_grd, sk_mv, sk_pick, sk_bin, sk_fld, sk_load, sk_lenL, get_mk, raw_slot, raw_lit, put_some, wb_nil, ev_mv, ev_pick, ev_not, ev_fld, ev_ldP, ldP_some, ro_int, ro_bool, got_int, pubs, pubsFrom, List.map_cons, List.map_nil, List.getD_cons_zero, List.getD_cons_succ, List.getElem?_cons_zero, List.getElem?_cons_succ, Bool.false_eq_true, Option.map_some, ↓reduceIte, Nat.zero_add, Bool.not_true]
      refine callpK_intro (fun _ => .inl (r46 hsz)) ?_
      rcases bf ((ch.length : Int) == countF size) with h7 | h7
      · simp (maxSteps := 2000000) (disch := first | omega | simp only [List.length_append, List.length_cons, List.length_nil, List.length_map] <;> omega) only [h7, nbI, List.set_cons_zero, List.set_cons_succ, flg_bool, swp_seq, swp_reg, swp_ret, swp_cond, seqK_n, seqK_r, condK_t, evK_some, appK_eq, srun_nil, srun_cons, fin_ret, sk_give, sk_pick, get_mk, raw_slot, raw_lit, put_some, wb_nil, ev_give, ev_pick, bin_neq, ro_bool, List.map_cons, List.map_nil, List.getD_cons_zero, List.getD_cons_succ, Bool.false_eq_true, ↓reduceIte, Bool.not_false]
        first | exact ⟨_, trim1 ho rfl, by simp [rightP, h1, h2, h34, h5, h6, h7], rfl⟩ | exact ⟨_, trim1 ho rfl, by simp [rightP, h1, h2, h34, h5, h6, h7]⟩ | exact ⟨_, .same, by simp [rightP, h1, h2, h34, h5, h6, h7], rfl⟩
      simp (maxSteps := 2000000) (disch := first | omega | simp only [List.length_append, List.length_cons, List.length_nil, List.length_map] <;> omega) only [h7, nbI, List.set_cons_zero, List.set_cons_succ, exc_int, swp_seq, swp_reg, swp_skip, swp_block, swp_cond, seqK_n, condK_f, evK_some, appK_eq, srun_nil, srun_cons, sk_take, sk_pick, get_mk, raw_slot, raw_lit, put_some, wb_nil, ev_take, ev_pick, bin_neq, ro_bool, got_int, List.map_cons, List.map_nil, List.getD_cons_zero, List.getD_cons_succ, Bool.false_eq_true, ↓reduceIte, Bool.not_true]
      refine swp_lp (fun S => ∃ (i : Nat), i ≤ ch.length ∧ (ch.take i).all (wth MX) = true ∧
          S = ⟨[.undef, .ptr st.length 0, .undef, .undef, .undef, .int .i64 i] ++ List.replicate 74 .undef, st ++ [.cells [.str path, .bool true, .int .i64 size, cv, .int .i64 dig, .int .i64 cl, .int .i64 cr]]⟩)
          (fun S => match S.get 5 with | .int _ k => ((ch.length : Int) - k).toNat | _ => 0)
          ⟨[.undef, .ptr st.length 0, .undef, .undef, .undef, .int .i64 0] ++ List.replicate 74 .undef, st ++ [.cells [.str path, .bool true, .int .i64 size, cv, .int .i64 dig, .int .i64 cl, .int .i64 cr]]⟩ ?_ ⟨0, Nat.zero_le _, rfl, rfl⟩ ?_
      · refine Forget.of ?_
        repeat first | exact fg_e | refine fg_d ?_ | refine fg_k rfl ?_
      rintro S ⟨i, hi, hall, rfl⟩
      by_cases him : i = ch.length
      · have hd : decide ((i : Int) < (ch.length : Int)) = false := by rw [decide_eq_false_iff_not]; omega
        rw [him, List.take_length] at hall
        simp (maxSteps := 2000000) (disch := first | omega | simp only [List.length_append, List.length_cons, List.length_nil, List.length_map] <;> omega) only [hd, q1, q5, getA0, List.set_cons_zero, List.set_cons_succ, lpK_e, flg_bool, swp_seq, swp_reg, swp_ret, swp_exit, swp_cond, seqK_n, seqK_e, blkK_e, condK_f, evK_some, appK_eq, srun_nil, srun_cons, fin_ret, sk_mv, sk_give, sk_bin, sk_fld, sk_load, sk_lenL, get_mk, raw_slot, raw_lit, put_some, wb_nil, ev_mv, ev_give, ev_fld, bin_lss, ev_ldP, ldP_some, ro_int, ro_bool, List.map_cons, List.map_nil, List.getD_cons_zero, List.getD_cons_succ, List.getElem?_cons_zero, List.getElem?_cons_succ, List.length_cons, List.length_nil, List.replicate_succ, List.replicate_zero, List.cons_append, List.nil_append, Bool.false_eq_true, Option.map_some, ↓reduceIte, Nat.zero_add, List.length_append]
        first | exact ⟨_, trim1 ho rfl, by simp [rightP, h1, h2, h34, h5, h6, h7, hall], rfl⟩ | exact ⟨_, trim1 ho rfl, by simp [rightP, h1, h2, h34, h5, h6, h7, hall]⟩ | exact ⟨_, .same, by simp [rightP, h1, h2, h34, h5, h6, h7, hall], rfl⟩
      have hd : decide ((i : Int) < (ch.length : Int)) = true := by rw [decide_eq_true_eq]; omega
      have hil : i < ch.length := by omega
      have z1 := hv.idxB hil .i64
      rw [Nat.mul_one] at z1
      have z2 := hv.ld1 (isv_at (List.getElem?_eq_getElem hil))
      have fin : ((ch.length : Int) - ((i + 1 : Nat) : Int)).toNat < ((ch.length : Int) - (i : Int)).toNat := by omega
      simp (maxSteps := 2000000) (disch := first | omega | simp only [List.length_append, List.length_cons, List.length_nil, List.length_map] <;> omega) only [hd, z1, z2, q1, q5, getA0, List.set_cons_zero, List.set_cons_succ, exc_int, sk_idxB, swp_seq, swp_reg, swp_skip, swp_block, swp_cond, seqK_n, condK_t, evK_some, appK_eq, srun_nil, srun_cons, stepK_call, sk_mv, sk_bin, sk_fld, sk_load, sk_lenL, get_mk, raw_slot, raw_lit, put_some, wb_nil, ev_mv, ev_fld, bin_lss, ev_ldP, ldP_some, ro_int, got_int, pubs, pubsFrom, List.map_cons, List.map_nil, List.getD_cons_zero, List.getD_cons_succ, List.getElem?_cons_zero, List.getElem?_cons_succ, List.length_cons, List.length_nil, List.replicate_succ, List.replicate_zero, List.cons_append, List.nil_append, Bool.false_eq_true, Option.map_some, ↓reduceIte, Nat.zero_add, List.length_append]
      refine callK_intro (.inl r35) ?_
      cases hw : wth 4294967295 ch[i] with
      | false =>
        have hall2 : ch.all (wth MX) = false := by
          rw [Bool.eq_false_iff]
          intro h
          rw [all_iff] at h
          rw [h i ch[i] (List.getElem?_eq_getElem hil)] at hw
          cases hw
        simp (maxSteps := 2000000) (disch := first | omega | simp only [List.length_append, List.length_cons, List.length_nil, List.length_map] <;> omega) only [List.set_cons_zero, List.set_cons_succ, lpK_r, flg_bool, swp_seq, swp_reg, swp_ret, swp_cond, seqK_n, seqK_r, blkK_r, condK_t, evK_some, appK_eq, appC_eq, srun_nil, srun_cons, fin_ret, sk_give, sk_un, get_mk, raw_slot, raw_lit, put_some, wb_nil, ev_give, ev_not, ro_bool, List.map_cons, List.map_nil, List.getD_cons_zero, List.getD_cons_succ, Bool.false_eq_true, ↓reduceIte, Bool.not_false]
        first | exact ⟨_, trim1 ho rfl, by simp [rightP, h1, h2, h34, h5, h6, h7, hall2], rfl⟩ | exact ⟨_, trim1 ho rfl, by simp [rightP, h1, h2, h34, h5, h6, h7, hall2]⟩ | exact ⟨_, .same, by simp [rightP, h1, h2, h34, h5, h6, h7, hall2], rfl⟩
      | true =>
        simp (maxSteps := 2000000) (disch := first | omega | simp only [List.length_append, List.length_cons, List.length_nil, List.length_map] <;> omega) only [List.set_cons_zero, List.set_cons_succ, lpK_n, flg_int, swp_reg, swp_skip, swp_cond, seqK_n, blkK_n, condK_f, evK_some, appK_eq, appC_eq, srun_nil, srun_cons, sk_mv, sk_give, sk_bin, sk_un, get_mk, raw_slot, raw_lit, put_some, wb_nil, ev_mv, ev_give, ev_not, bin_add, ro_int, List.map_cons, List.map_nil, List.getD_cons_zero, List.getD_cons_succ, Bool.false_eq_true, ↓reduceIte, Bool.not_true, wrap_i64]
        refine ⟨_, ?_, ⟨i + 1, by omega, by rw [← List.take_append_getElem hil, List.all_append, hall]; simp [hw], rfl⟩, by exact fin⟩
        refine Forget.of ?_
        repeat first | exact fg_e | refine fg_d ?_ | refine fg_k rfl ?_
def O33 : Orc := O32.add 35 (StC KPiece)
theorem s33 : Sound Tryd.prog O33 := s32.addS c35 (by kernel_rfl) (by
  rintro args r st ⟨p, hp, ho, rfl, rfl⟩
  exact ⟨by simp [sf35], g36 p st hp ho⟩)
end Go.Sh.F
namespace Go.Sh.F
open Go.PathLaw Go.Proofs
theorem rows_iff : ∀ l : List Pc, rows l = true ↔ ∀ (j : Nat) (z : Pc), l[j]? = some z → rightP z = true ∧ ∀ y, 0 < j → l[j - 1]? = some y → lt y.path z.path = true
  | [] => by simp [rows]
  | [p] => by
    constructor
    · intro h j z hz
      cases j with
      | zero => simp at hz; subst hz; exact ⟨h, fun y h0 => by omega⟩
      | succ j => simp at hz
    · intro h; exact (h 0 p rfl).1
  | p :: q :: r => by
    have ih := rows_iff (q :: r)
    rw [rows, Bool.and_eq_true, Bool.and_eq_true, ih]
    constructor
    · rintro ⟨⟨h1, h2⟩, h3⟩ j z hz
      cases j with
      | zero => simp at hz; subst hz; exact ⟨h1, fun y h0 => by omega⟩
      | succ j =>
        rw [List.getElem?_cons_succ] at hz
        refine ⟨(h3 j z hz).1, fun y _ hy => ?_⟩
        rw [Nat.add_sub_cancel] at hy
        cases j with
        | zero => simp at hy hz; subst hy; subst hz; exact h2
        | succ j =>
          rw [List.getElem?_cons_succ] at hy
          exact (h3 (j + 1) z hz).2 y (by omega) (by rw [Nat.add_sub_cancel]; exact hy)
    · intro h
      refine ⟨⟨(h 0 p rfl).1, (h 1 q rfl).2 p (by omega) rfl⟩, fun j z hz => ⟨(h (j + 1) z (by simpa using hz)).1, fun y h0 hy => (h (j + 1) z (by simpa using hz)).2 y (by omega) ?_⟩⟩
      rw [Nat.add_sub_cancel]
      obtain ⟨j, rfl⟩ : ∃ k, j = k + 1 := ⟨j - 1, by omega⟩
      simpa using hy
def rowsTo (l : List Pc) (i : Nat) : Prop := ∀ (j : Nat) (z : Pc), j < i → l[j]? = some z → rightP z = true ∧ ∀ y, 0 < j → l[j - 1]? = some y → lt y.path z.path = true
theorem rowsTo_all {l : List Pc} (h : rowsTo l l.length) : rows l = true := (rows_iff l).2 fun j z hz => h j z (List.getElem?_eq_some_iff.1 hz).1 hz
theorem rowsTo_succ {l : List Pc} {i : Nat} (h : rowsTo l i) (hi : i < l.length) (h1 : rightP l[i] = true) (h2 : ∀ h0 : i - 1 < l.length, 0 < i → lt l[i - 1].path l[i].path = true) : rowsTo l (i + 1) := by
  intro j z hj hz
  by_cases e : j = i
  · subst e
    rw [List.getElem?_eq_getElem hi] at hz
    obtain rfl := Option.some.inj hz
    refine ⟨h1, fun y h0 hy => ?_⟩
    rw [List.getElem?_eq_getElem (by omega)] at hy
    obtain rfl := Option.some.inj hy
    exact h2 (by omega) h0
  · exact h j z (by omega) hz
theorem rowsTo_not {l : List Pc} {i : Nat} (hi : i < l.length) (h : ¬ (rightP l[i] = true ∧ ∀ h0 : i - 1 < l.length, 0 < i → lt l[i - 1].path l[i].path = true)) : rows l = false := by
  rw [Bool.eq_false_iff]
  intro hr
  rw [rows_iff] at hr
  have := hr i l[i] (List.getElem?_eq_getElem hi)
  exact h ⟨this.1, fun h0 h1 => this.2 _ h1 (List.getElem?_eq_getElem h0)⟩
theorem ro_pc {st : List Ob} {p : Pc} (h : p.ok st) : ro (.agg p.cells) = .agg p.cells := by
  obtain ⟨q1, q2, q3, q4, q6, q7⟩ := h.1.facts
  simp only [Pc.cells, ro_agg, List.map_cons, List.map_nil, ro1_str, ro1_bool, ro1_int, q6]
theorem ro1_pc {st : List Ob} {p : Pc} (h : p.ok st) : p.cells.map ro1 = p.cells := by
  obtain ⟨q1, q2, q3, q4, q6, q7⟩ := h.1.facts
  simp only [Pc.cells, List.map_cons, List.map_nil, ro1_str, ro1_bool, ro1_int, q6]
theorem cell_pc {st : List Ob} {p : Pc} (h : p.ok st) : p.cells.all isCell = true := by
  obtain ⟨q1, q2, q3, q4, q6, q7⟩ := h.1.facts
  simp only [Pc.cells, List.all_cons, List.all_nil, cell_str, cell_bool, cell_int, q7, Bool.and_self]
theorem Mf.ok.at' {st : List Ob} {m : Mf} (h : m.ok st) {i : Nat} (hi : i < m.ps.length) (x : List Ob) :
    ev (st ++ x) (.load 7 true) [adr m.pv (i * 7)] = some (.agg m.ps[i].cells, [], st ++ x) := by
  rw [h.1.ldN (by omega) (by omega) x, flat_part (pc_len _) (List.getElem?_eq_getElem hi), ro_pc (h.2.2 _ (List.getElem_mem hi))]
theorem Mf.ok.path {st : List Ob} {m : Mf} (h : m.ok st) {i : Nat} (hi : i < m.ps.length) (x : List Ob) :
    ev (st ++ x) (.load 1 false) [adr m.pv (i * 7)] = some (.str m.ps[i].path, [], st ++ x) := by
  have := flat_get (pc_len m.ps) (j := 0) (List.getElem?_eq_getElem hi) (by omega)
  rw [Nat.add_zero] at this
  rw [h.1.ld1 this x]; rfl
theorem Mf.ok.chs {st : List Ob} {m : Mf} (h : m.ok st) {i : Nat} (hi : i < m.ps.length) (x : List Ob) :
    ev (st ++ x) (.load 1 false) [adr m.pv (i * 7 + 3)] = some (m.ps[i].cv, [], st ++ x) := by
  have := flat_get (pc_len m.ps) (j := 3) (List.getElem?_eq_getElem hi) (by omega)
  rw [h.1.ld1 this x]
  show some (ro m.ps[i].cv, _, _) = _
  rw [(h.2.2 _ (List.getElem_mem hi)).1.facts.1]
theorem Mf.ok.f0 {st : List Ob} {m : Mf} (h : m.ok st) {i : Nat} (hi : i < m.ps.length) (s : List Ob) : ev s (.fld 0) [adr m.pv (i * 7)] = some (adr m.pv (i * 7), [], s) := h.1.fld (by omega) (i * 7) 0 s
theorem Mf.ok.f3 {st : List Ob} {m : Mf} (h : m.ok st) {i : Nat} (hi : i < m.ps.length) (s : List Ob) : ev s (.fld 3) [adr m.pv (i * 7)] = some (adr m.pv (i * 7 + 3), [], s) := h.1.fld (by omega) (i * 7) 3 s
theorem idOks_flat {st : List Ob} {l : List Pc} (h : ∀ p ∈ l, p.ok st) : idOks st.length (l.flatMap Pc.cells) = true := by
  induction l with
  | nil => rfl
  | cons p l ih =>
    rw [List.flatMap_cons, idOks_app, idOks_pc (h p List.mem_cons_self), ih (fun q hq => h q (List.mem_cons_of_mem _ hq))]; rfl
theorem idOks_mf {st : List Ob} {m : Mf} (h : m.ok st) : idOks st.length m.cells = true := by
  have := h.1.idOk (idOks_flat h.2.2)
  simp only [Mf.cells, idOks, idOk, this, Bool.and_self]
theorem okM {st : List Ob} {m : Mf} (h : m.ok st) (ho : okSt st) : okSt (st ++ [.cells m.cells]) := by
  refine okSt_appL ho ?_
  have := idOks_mf (h.mono [.cells m.cells])
  rw [List.length_append] at this
  simp only [List.all_cons, List.all_nil, Bool.and_true, obOk]
  exact this
end Go.Sh.F
namespace Go.Sh.F
open Go.PathLaw Go.Proofs
theorem Forget.cutA {k : Nat} {xs bs : List SV} {st l x : List Ob} (h : fg xs bs) (hk : k ≤ st.length + l.length) (hi : idOks (st.length + l.length) bs = true) (ho : okSt (st ++ l)) : Forget k ⟨xs, st ++ (l ++ x)⟩ ⟨bs, st ++ l⟩ := by
  rw [← List.length_append] at hk hi
  refine Forget.cut h hk ?_ hi ho
  rw [← List.append_assoc, List.take_left]
theorem leq_strs {st : List Ob} {x y : List UInt8} : ev st (.bin .leq) [.str x, .str y] = some (.bool (!(lt y x)), [], st) := by rw [bin_leqS, leq_lt]
theorem plen (p : Pc) : p.cells.length = 7 := rfl
theorem ptake (p : Pc) : p.cells.take 7 = p.cells := rfl
theorem pget0 (p : Pc) : p.cells[0]? = some (.str p.path) := rfl
theorem pget1 (p : Pc) : p.cells[1]? = some (.bool p.has) := rfl
theorem pget2 (p : Pc) : p.cells[2]? = some (.int .i64 p.size) := rfl
theorem pget3 (p : Pc) : p.cells[3]? = some p.cv := rfl
theorem pget4 (p : Pc) : p.cells[4]? = some (.int .i64 p.dig) := rfl
theorem pclk (p : Pc) : (p.cells.drop 5).take 2 = [.int .i64 p.cl, .int .i64 p.cr] := rfl
theorem Mf.ok.idp {st : List Ob} {m : Mf} (h : m.ok st) (n : Nat) : idOk (st.length + n) m.pv = true := idOk_mono (Nat.le_add_right _ _) _ (h.1.idOk (idOks_flat h.2.2))
def O34 : Orc := O33.add 0 (fun _ _ _ _ => False)
theorem s34 : Sound Tryd.prog O34 := fun f a s r s2 h => h.elim (s33 f a s r s2) (fun k => k.2.elim)
theorem wrap1 {v : Int} : (decide (1 ≤ v) && decide (v ≤ 200)) = wth 199 (v - 1) := by
  unfold wth
  rw [Bool.eq_iff_iff]
  simp only [Bool.and_eq_true, decide_eq_true_eq]
  omega
theorem wth_wrap {v : Int} (h : -9223372036854775808 ≤ v) (h2 : v ≤ 9223372036854775807) : wth 199 (IntKind.i64.wrap (v - 1)) = wth 199 (v - 1) := by
  by_cases e : v = -9223372036854775808
  · subst e; decide
  · rw [wrap_i64 (by omega) (by omega)]
theorem next_wth {ne ep : Int} (h1 : wth 100 ep = true) (h2 : wth 100 ne = true) : (ne == ep || ne == ep + 1) = wth 1 (ne - ep) := by
  simp only [wth, Bool.and_eq_true, decide_eq_true_eq] at h1 h2
  unfold wth
  rw [Bool.eq_iff_iff]
  simp only [Bool.or_eq_true, beq_iff_eq, Bool.and_eq_true, decide_eq_true_eq]
  omega
def Mf.fit (m : Mf) : Prop := -9223372036854775808 ≤ m.ve ∧ m.ve ≤ 9223372036854775807
theorem r27 {p : Pc} {st : List Ob} (hp : p.ok st) (ho : okSt st) : O34 33 [.agg p.cells] st (.bool (rightP p)) st := (by repeat first | exact Or.inr ⟨rfl, rfl, p, hp, ho, rfl, rfl⟩ | refine Or.inl ?_)
theorem r36 {p : Pc} {st : List Ob} (hp : p.ok st) (ho : okSt st) : O34 35 [.agg p.cells] st (.bool (rightP p)) st := (by repeat first | exact Or.inr ⟨rfl, rfl, p, hp, ho, rfl, rfl⟩ | refine Or.inl ?_)
set_option maxHeartbeats 16000000 in
theorem g19 (m : Mf) (st : List Ob) (hm : m.ok st) (hf : m.fit) (ho : okSt st) : swpF O34 sf18 [.agg m.cells] st (fun r st' => r = .bool (rightM m) ∧ st' = st) := by
  have o1 := okM hm ho
  have o2 := fun i (hi : i < m.ps.length) => okP ((hm.2.2 _ (List.getElem_mem hi)).mono [.cells m.cells]) o1
  have pk := fun i (hi : i < m.ps.length) => (hm.2.2 _ (List.getElem_mem hi)).mono [.cells m.cells, .cells m.ps[i].cells]
  have a0 := fun i (hi : i < m.ps.length) => hm.at' hi [.cells m.cells]
  have a1 := fun i (hi : i < m.ps.length) z => hm.path hi [.cells m.cells, z]
  have f0 := fun i (hi : i < m.ps.length) => hm.f0 hi
  have ib := fun i (hi : i < m.ps.length) => hm.1.idxB hi .i64
  have ia := fun i (hi : i < m.ps.length) => hm.1.idxA hi .i64
  have sa := fun i (hi : i < m.ps.length) z => st_aggA (st := st) (l := [z, .cells [.str [], .bool false, .int .i64 0, .nilS, .int .i64 0, .int .i64 0, .int .i64 0]]) (i := 1) (n := 7) (b := true) (xs := m.ps[i].cells) rfl (ro1_pc (hm.2.2 _ (List.getElem_mem hi))) (cell_pc (hm.2.2 _ (List.getElem_mem hi))) rfl rfl
  have ro7 := fun i (hi : i < m.ps.length) => ro1_pc (hm.2.2 _ (List.getElem_mem hi))
  have idp := hm.idp 1
  have hb := hm.2.1
  obtain ⟨q1, q2, q3, q4, q6, q7⟩ := hm.1.facts
  have q5 := hm.1.lenL
  obtain ⟨au, ve, pr, ep, ne, se, sh, pv, ps⟩ := m
  simp only [Mf.cells, Mf.fit] at idp o1 o2 pk a0 a1 f0 ib ia sa ro7 q1 q2 q3 q4 q5 q6 q7 hb hf ⊢
  simp (maxSteps := 2000000) (disch := first | omega | simp only [List.length_append, List.length_cons, List.length_nil, List.length_map] <;> omega) only [sf18, q6, q7, cv_agg, cv_int, cell_int, getA0, Nat.add_zero, List.set_cons_zero, List.set_cons_succ, pub_excl2, flg_bool, exc_int, exc_agg, exc_excl, swp_seq, swp_reg, seqK_n, evK_some, appK_eq, srun_nil, srun_cons, stepK_call, swpF_eq, sk_give, sk_fld, sk_load, sk_bsl, sk_box, get_mk, raw_slot, raw_lit, put_some, wb_nil, ev_give, ev_fld, ev_bsl, ev_box, ev_ldP, ldP_some, ro_int, ro_bool, ro1_int, got_excl, got_int, got_agg, pubs, pubsFrom, List.map_cons, List.map_nil, List.getD_cons_zero, List.getD_cons_succ, List.getElem?_cons_zero, List.length_cons, List.length_nil, List.replicate_succ, List.replicate_zero, List.cons_append, List.nil_append, Nat.reduceSub, Nat.reduceLT, and_true, Bool.false_eq_true, Option.map_some, ↓reduceIte, List.all_cons, List.all_nil, Bool.and_self, List.zip_cons_cons, List.zip_nil_right, rep, fillV, wrCells, List.flatten_cons, List.flatten_nil, List.append_nil, decide_true, Nat.mul_one, Nat.zero_add, Nat.le_refl]
  refine callK_intro ((.inl (.inl (.inl (r26a (by simp) o1))))) ?_
  rcases bf (wth 1 au) with h1 | h1
  · rw [h1]
    simp (maxSteps := 2000000) (disch := first | omega | simp only [List.length_append, List.length_cons, List.length_nil, List.length_map] <;> omega) only [List.set_cons_zero, List.set_cons_succ, flg_bool, swp_seq, swp_reg, swp_ret, swp_cond, seqK_n, seqK_r, condK_t, evK_some, appK_eq, appC_eq, grd_t, srun_nil, srun_cons, stepK_grd, fin_ret, sk_mv, sk_give, sk_pick, sk_un, get_mk, raw_slot, raw_lit, put_some, wb_nil, wb_cons, ev_mv, ev_give, ev_pick, ev_not, ro_bool, List.map_cons, List.map_nil, List.getD_cons_zero, List.getD_cons_succ, List.getElem?_cons_zero, List.getElem?_cons_succ, Bool.false_eq_true, ↓reduceIte, reduceCtorEq, Bool.not_false]
    first | exact ⟨_, trim1 ho rfl, by simp [rightM, headM, h1], rfl⟩ | exact ⟨_, trim1 ho rfl, by simp [rightM, headM, h1]⟩ | exact ⟨_, .same, by simp [rightM, headM, h1], rfl⟩
  rw [h1]
  simp (maxSteps := 2000000) (disch := first | omega | simp only [List.length_append, List.length_cons, List.length_nil, List.length_map] <;> omega) only [bin_sub, cv_int, cell_int, getA0, List.set_cons_zero, List.set_cons_succ, pub_excl2, exc_int, exc_excl, evK_some, appK_eq, appC_eq, grd_t, srun_cons, stepK_call, stepK_grd, sk_mv, sk_bin, sk_un, sk_fld, sk_load, sk_bsl, get_mk, raw_slot, raw_lit, put_some, wb_nil, wb_cons, ev_mv, ev_not, ev_fld, ev_bsl, ev_ldP, ldP_some, ro_int, ro_bool, got_excl, got_int, pubs, pubsFrom, List.map_cons, List.map_nil, List.getD_cons_zero, List.getD_cons_succ, List.getElem?_cons_zero, List.getElem?_cons_succ, List.length_cons, List.length_nil, List.replicate_succ, List.replicate_zero, Nat.reduceLT, and_true, Bool.false_eq_true, Option.map_some, ↓reduceIte, List.all_cons, List.all_nil, Bool.and_self, List.zip_cons_cons, List.zip_nil_right, rep, fillV, wrCells, List.flatten_cons, List.flatten_nil, List.append_nil, decide_true, Nat.mul_one, Nat.zero_add, Bool.not_true, Nat.le_refl]
  refine callK_intro ((.inl (.inl (.inl (r26a (by simp) o1))))) ?_
  rw [wth_wrap hf.1 hf.2]
  have ew := wrap1 (v := ve)
  rcases bf (wth 199 (ve - 1)) with h2 | h2
  · rw [h2] at ew ⊢
    simp (maxSteps := 2000000) (disch := first | omega | simp only [List.length_append, List.length_cons, List.length_nil, List.length_map] <;> omega) only [List.set_cons_zero, List.set_cons_succ, flg_bool, swp_seq, swp_reg, swp_ret, swp_cond, seqK_n, seqK_r, condK_t, evK_some, appK_eq, appC_eq, grd_t, srun_nil, srun_cons, stepK_grd, fin_ret, sk_mv, sk_give, sk_pick, sk_un, get_mk, raw_slot, raw_lit, put_some, wb_nil, wb_cons, ev_mv, ev_give, ev_pick, ev_not, ro_bool, List.map_cons, List.map_nil, List.getD_cons_zero, List.getD_cons_succ, List.getElem?_cons_zero, List.getElem?_cons_succ, Bool.false_eq_true, ↓reduceIte, reduceCtorEq, Bool.not_false]
    first | exact ⟨_, trim1 ho rfl, by simp [rightM, headM, h1, ew], rfl⟩ | exact ⟨_, trim1 ho rfl, by simp [rightM, headM, h1, ew]⟩ | exact ⟨_, .same, by simp [rightM, headM, h1, ew], rfl⟩
  rw [h2] at ew ⊢
  simp (maxSteps := 2000000) (disch := first | omega | simp only [List.length_append, List.length_cons, List.length_nil, List.length_map] <;> omega) only [cv_int, cell_int, getA0, List.set_cons_zero, List.set_cons_succ, pub_excl2, exc_int, exc_excl, evK_some, appK_eq, appC_eq, grd_t, srun_cons, stepK_call, stepK_grd, sk_mv, sk_pick, sk_un, sk_fld, sk_load, sk_bsl, get_mk, raw_slot, raw_lit, put_some, wb_nil, wb_cons, ev_mv, ev_pick, ev_not, ev_fld, ev_bsl, ev_ldP, ldP_some, ro_int, ro_bool, got_excl, got_int, pubs, pubsFrom, List.map_cons, List.map_nil, List.getD_cons_zero, List.getD_cons_succ, List.getElem?_cons_zero, List.getElem?_cons_succ, List.length_cons, List.length_nil, List.replicate_succ, List.replicate_zero, List.cons_append, List.nil_append, Nat.reduceAdd, Nat.reduceLeDiff, Nat.reduceLT, and_true, Bool.false_eq_true, Option.map_some, ↓reduceIte, List.all_cons, List.all_nil, Bool.and_self, List.zip_cons_cons, List.zip_nil_right, rep, fillV, wrCells, List.flatten_cons, List.flatten_nil, List.append_nil, decide_true, Nat.mul_one, Nat.zero_add, Bool.not_true, Nat.le_refl]
  refine callK_intro ((.inl (.inl (.inl (r26c (by simp) o1))))) ?_
  rcases bf (wth 4294967295 pr && (wth 4294967295 se && wth 4294967295 sh)) with h3 | h3
  · rw [h3]
    have e3 : (wth 4294967295 pr && wth 4294967295 se && wth 4294967295 sh) = false := by rw [Bool.and_assoc]; exact h3
    have e4 : rightM ⟨au, ve, pr, ep, ne, se, sh, pv, ps⟩ = false := by
      cases z1 : wth 4294967295 pr <;> cases z2 : wth 4294967295 se <;> cases z3 : wth 4294967295 sh <;> simp [z1, z2, z3] at h3 <;> simp [rightM, headM, z1, z2, z3]
    rw [e4]
    simp (maxSteps := 2000000) (disch := first | omega | simp only [List.length_append, List.length_cons, List.length_nil, List.length_map] <;> omega) only [List.set_cons_zero, List.set_cons_succ, flg_bool, swp_seq, swp_reg, swp_ret, swp_cond, seqK_n, seqK_r, condK_t, evK_some, appK_eq, appC_eq, grd_t, srun_nil, srun_cons, stepK_grd, fin_ret, sk_mv, sk_give, sk_pick, sk_un, get_mk, raw_slot, raw_lit, put_some, wb_nil, wb_cons, ev_mv, ev_give, ev_pick, ev_not, ro_bool, List.map_cons, List.map_nil, List.getD_cons_zero, List.getD_cons_succ, List.getElem?_cons_zero, List.getElem?_cons_succ, true_and, Bool.false_eq_true, ↓reduceIte, reduceCtorEq, Bool.not_false]
    first | exact ⟨_, trim1 ho rfl⟩ | exact ⟨_, trim1 ho rfl, rfl⟩ | exact ⟨_, trim1 ho rfl, rfl, rfl⟩ | exact ⟨_, trim1 ho rfl, by simp, rfl⟩ | exact ⟨_, trim1 ho rfl, by simp⟩
  rw [h3]
  simp only [Bool.and_eq_true] at h3
  simp (maxSteps := 2000000) (disch := first | omega | simp only [List.length_append, List.length_cons, List.length_nil, List.length_map] <;> omega) only [cv_int, cell_int, getA0, List.set_cons_zero, List.set_cons_succ, pub_excl2, exc_int, exc_excl, evK_some, appK_eq, appC_eq, grd_t, srun_cons, stepK_call, stepK_grd, sk_mv, sk_pick, sk_un, sk_fld, sk_load, sk_bsl, get_mk, raw_slot, raw_lit, put_some, wb_nil, wb_cons, ev_mv, ev_pick, ev_not, ev_fld, ev_bsl, ev_ldP, ldP_some, ro_int, ro_bool, got_excl, got_int, pubs, pubsFrom, List.map_cons, List.map_nil, List.getD_cons_zero, List.getD_cons_succ, List.getElem?_cons_zero, List.getElem?_cons_succ, List.length_cons, List.length_nil, List.replicate_succ, List.replicate_zero, List.cons_append, List.nil_append, Nat.reduceAdd, Nat.reduceLeDiff, Nat.reduceLT, and_true, Bool.false_eq_true, Option.map_some, ↓reduceIte, List.all_cons, List.all_nil, Bool.and_self, List.zip_cons_cons, List.zip_nil_right, rep, fillV, wrCells, List.flatten_cons, List.flatten_nil, List.append_nil, decide_true, Nat.mul_one, Nat.zero_add, Bool.not_true, Nat.le_refl]
  refine callK_intro ((.inl (.inl (.inl (r26b (by simp) o1))))) ?_
  rcases bf (wth 100 ep && wth 100 ne) with h4 | h4
  · rw [h4]
    have e4 : rightM ⟨au, ve, pr, ep, ne, se, sh, pv, ps⟩ = false := by
      cases z1 : wth 100 ep <;> cases z2 : wth 100 ne <;> simp [z1, z2] at h4 <;> simp [rightM, headM, z1, z2]
    rw [e4]
    simp (maxSteps := 2000000) (disch := first | omega | simp only [List.length_append, List.length_cons, List.length_nil, List.length_map] <;> omega) only [List.set_cons_zero, List.set_cons_succ, flg_bool, swp_seq, swp_reg, swp_ret, swp_cond, seqK_n, seqK_r, condK_t, evK_some, appK_eq, appC_eq, grd_t, srun_nil, srun_cons, stepK_grd, fin_ret, sk_mv, sk_give, sk_pick, sk_un, get_mk, raw_slot, raw_lit, put_some, wb_nil, wb_cons, ev_mv, ev_give, ev_pick, ev_not, ro_bool, List.map_cons, List.map_nil, List.getD_cons_zero, List.getD_cons_succ, List.getElem?_cons_zero, List.getElem?_cons_succ, true_and, Bool.false_eq_true, ↓reduceIte, reduceCtorEq, Bool.not_false]
    first | exact ⟨_, trim1 ho rfl⟩ | exact ⟨_, trim1 ho rfl, rfl⟩ | exact ⟨_, trim1 ho rfl, rfl, rfl⟩ | exact ⟨_, trim1 ho rfl, by simp, rfl⟩ | exact ⟨_, trim1 ho rfl, by simp⟩
  rw [h4]
  simp only [Bool.and_eq_true] at h4
  have en := next_wth h4.1 h4.2
  have r100 : -100 ≤ ne - ep ∧ ne - ep ≤ 100 := by
    simp only [wth, Bool.and_eq_true, decide_eq_true_eq] at h4; omega
  simp (maxSteps := 2000000) (disch := first | omega | simp only [List.length_append, List.length_cons, List.length_nil, List.length_map] <;> omega) only [cv_int, cell_int, getA0, List.set_cons_zero, List.set_cons_succ, pub_excl2, exc_int, exc_excl, evK_some, appK_eq, appC_eq, grd_t, srun_cons, stepK_call, stepK_grd, sk_mv, sk_pick, sk_bin, sk_un, sk_fld, sk_load, sk_bsl, get_mk, raw_slot, raw_lit, put_some, wb_nil, wb_cons, ev_mv, ev_pick, ev_not, ev_fld, bin_sub, ev_bsl, ev_ldP, ldP_some, ro_int, ro_bool, got_excl, got_int, pubs, pubsFrom, List.map_cons, List.map_nil, List.getD_cons_zero, List.getD_cons_succ, List.getElem?_cons_zero, List.getElem?_cons_succ, List.length_cons, List.length_nil, List.replicate_succ, List.replicate_zero, Nat.reduceLT, and_true, Bool.false_eq_true, Option.map_some, ↓reduceIte, List.all_cons, List.all_nil, Bool.and_self, List.zip_cons_cons, List.zip_nil_right, rep, fillV, wrCells, List.flatten_cons, List.flatten_nil, List.append_nil, decide_true, Nat.mul_one, Nat.zero_add, Bool.not_true, wrap_i64, Nat.le_refl]
  refine callK_intro ((.inl (.inl (.inl (r26a (by simp) o1))))) ?_
  rcases bf (wth 1 (ne - ep)) with h5 | h5
  · rw [h5] at en ⊢
    simp (maxSteps := 2000000) (disch := first | omega | simp only [List.length_append, List.length_cons, List.length_nil, List.length_map] <;> omega) only [List.set_cons_zero, List.set_cons_succ, flg_bool, swp_seq, swp_reg, swp_ret, swp_cond, seqK_n, seqK_r, condK_t, evK_some, appK_eq, appC_eq, grd_t, srun_nil, srun_cons, stepK_grd, fin_ret, sk_give, sk_pick, sk_un, get_mk, raw_slot, raw_lit, put_some, wb_nil, wb_cons, ev_give, ev_pick, ev_not, ro_bool, List.map_cons, List.map_nil, List.getD_cons_zero, List.getD_cons_succ, List.getElem?_cons_zero, List.getElem?_cons_succ, Bool.false_eq_true, ↓reduceIte, Bool.not_false]
    first | exact ⟨_, trim1 ho rfl, by simp [rightM, headM, en], rfl⟩ | exact ⟨_, trim1 ho rfl, by simp [rightM, headM, en]⟩ | exact ⟨_, .same, by simp [rightM, headM, en], rfl⟩
  rw [h5] at en ⊢
  have eh : headM ⟨au, ve, pr, ep, ne, se, sh, pv, ps⟩ = true := by
    unfold headM; simp only [h1, ew, h3.1, h3.2.1, h3.2.2, h4.1, h4.2, en, Bool.and_self]
  simp (maxSteps := 2000000) (disch := first | omega | simp only [List.length_append, List.length_cons, List.length_nil, List.length_map] <;> omega) only [q1, q5, getA0, List.set_cons_zero, List.set_cons_succ, swp_seq, swp_reg, swp_skip, swp_block, swp_cond, seqK_n, condK_f, evK_some, appK_eq, appC_eq, grd_t, srun_nil, srun_cons, stepK_grd, sk_mv, sk_pick, sk_un, sk_fld, sk_load, sk_lenL, get_mk, raw_slot, raw_lit, put_some, wb_nil, wb_cons, ev_mv, ev_pick, ev_not, ev_fld, ev_ldP, ldP_some, ro_int, ro_bool, List.map_cons, List.map_nil, List.getD_cons_zero, List.getD_cons_succ, List.getElem?_cons_zero, List.getElem?_cons_succ, Bool.false_eq_true, Option.map_some, ↓reduceIte, Nat.zero_add, Bool.not_true]
  refine swp_lp (fun S => ∃ (i : Nat), i ≤ ps.length ∧ rowsTo ps i ∧
      S = ⟨List.replicate 1 .undef ++ [.ptr st.length 0] ++ List.replicate 47 .undef ++ [pv, .int .i64 ps.length, .int .i64 i] ++ List.replicate 28 .undef, st ++ [.cells [.int .i64 au, .int .i64 ve, .int .i64 pr, .int .i64 ep, .int .i64 ne, .int .i64 se, .int .i64 sh, pv]]⟩)
      (fun S => match S.get 51 with | .int _ k => ((ps.length : Int) - k).toNat | _ => 0)
      ⟨List.replicate 1 .undef ++ [.ptr st.length 0] ++ List.replicate 47 .undef ++ [pv, .int .i64 ps.length, .int .i64 0] ++ List.replicate 28 .undef, st ++ [.cells [.int .i64 au, .int .i64 ve, .int .i64 pr, .int .i64 ep, .int .i64 ne, .int .i64 se, .int .i64 sh, pv]]⟩ ?_ ⟨0, Nat.zero_le _, fun j z h => by omega, rfl⟩ ?_
  · refine Forget.of ?_
    repeat first | exact fg_e | refine fg_d ?_ | refine fg_k rfl ?_
  rintro S ⟨i, hi, hall, rfl⟩
  by_cases him : i = ps.length
  · have hd : decide ((i : Int) < (ps.length : Int)) = false := by rw [decide_eq_false_iff_not]; omega
    rw [him] at hall
    have er := rowsTo_all hall
    simp (maxSteps := 2000000) (disch := first | omega | simp only [List.length_append, List.length_cons, List.length_nil, List.length_map] <;> omega) only [hd, q1, q5, getA0, List.set_cons_zero, List.set_cons_succ, lpK_e, flg_bool, swp_seq, swp_reg, swp_ret, swp_exit, swp_cond, seqK_n, seqK_e, blkK_e, condK_f, evK_some, appK_eq, srun_nil, srun_cons, fin_ret, sk_give, sk_bin, sk_fld, sk_load, sk_lenL, get_mk, raw_slot, raw_lit, put_some, wb_nil, ev_give, ev_fld, bin_lss, bin_leq, ev_ldP, ldP_some, ro_bool, List.map_cons, List.map_nil, List.getD_cons_zero, List.getD_cons_succ, List.getElem?_cons_zero, List.getElem?_cons_succ, List.length_cons, List.length_nil, List.replicate_succ, List.replicate_zero, List.cons_append, List.nil_append, Bool.false_eq_true, Option.map_some, ↓reduceIte, Nat.zero_add, List.length_append]
    exact ⟨_, trim1 ho rfl, by simp [rightM, eh, er]; omega, rfl⟩
  have hd : decide ((i : Int) < (ps.length : Int)) = true := by rw [decide_eq_true_eq]; omega
  have hil : i < ps.length := by omega
  have fin : ((ps.length : Int) - ((i + 1 : Nat) : Int)).toNat < ((ps.length : Int) - (i : Int)).toNat := by omega
  have b0 := a0 i hil
  have b1 := a1 i hil
  have b3 := f0 i hil
  have b5 := ib i hil
  have b6 := sa i hil
  have b7 := ro7 i hil
  simp (maxSteps := 2000000) (disch := first | omega | simp only [List.length_append, List.length_cons, List.length_nil, List.length_map] <;> omega) only [hd, b0, b5, b6, b7, plen, ptake, getA, ev_ldA, List.drop_zero, List.append_assoc, List.set_cons_zero, List.set_cons_succ, apO_some, exc_int, exc_agg, sk_idxB, swp_seq, swp_reg, swp_skip, swp_block, swp_cond, seqK_n, condK_t, evK_some, appK_eq, srun_nil, srun_cons, stepK_call, sk_mv, sk_take, sk_bin, sk_load, sk_store, sk_alloc, get_mk, raw_slot, put_some, put_none, wb_nil, ev_mv, ev_take, bin_lss, ev_alloc, ro_int, ro_agg, got_int, got_agg, pubs, pubsFrom, List.map_cons, List.map_nil, List.getD_cons_zero, List.getD_cons_succ, List.getElem?_cons_zero, List.getElem?_cons_succ, List.length_cons, List.length_nil, List.replicate_succ, List.replicate_zero, List.cons_append, List.nil_append, Bool.false_eq_true, ↓reduceIte, Nat.zero_add, List.length_append, Nat.le_refl]
  refine callK_intro (r27 (pk i hil) (by simpa using o2 i hil)) ?_
  rcases bf (rightP ps[i]) with e1 | e1
  · rw [e1]
    have er := rowsTo_not hil (by rw [e1]; simp)
    simp (maxSteps := 2000000) (disch := first | omega | simp only [List.length_append, List.length_cons, List.length_nil, List.length_map] <;> omega) only [List.set_cons_zero, List.set_cons_succ, lpK_r, flg_bool, grd_s, swp_seq, swp_reg, swp_ret, swp_cond, seqK_n, seqK_r, blkK_r, condK_t, evK_some, appK_eq, appC_eq, grd_t, srun_nil, srun_cons, stepK_grd, fin_ret, sk_mv, sk_give, sk_pick, sk_un, get_mk, raw_slot, raw_lit, put_some, wb_nil, ev_mv, ev_give, ev_pick, ev_not, ro_bool, List.map_cons, List.map_nil, List.getD_cons_zero, List.getD_cons_succ, Bool.false_eq_true, ↓reduceIte, reduceCtorEq, Bool.not_false]
    first | exact ⟨_, trim1 ho rfl, by simp [rightM, er], rfl⟩ | exact ⟨_, trim1 ho rfl, by simp [rightM, er]⟩ | exact ⟨_, .same, by simp [rightM, er], rfl⟩
  rw [e1]
  have oc := o1
  by_cases h0 : i = 0
  · have d0 : decide ((0 : Int) < (i : Int)) = false := by rw [decide_eq_false_iff_not]; omega
    simp (maxSteps := 2000000) (disch := first | omega | simp only [List.length_append, List.length_cons, List.length_nil, List.length_map] <;> omega) only [d0, List.set_cons_zero, List.set_cons_succ, lpK_n, swp_reg, swp_skip, swp_cond, seqK_n, blkK_n, condK_f, evK_some, appK_eq, appC_eq, grd_t, srun_nil, srun_cons, stepK_grd, sk_mv, sk_pick, sk_bin, sk_un, get_mk, raw_slot, raw_lit, put_some, wb_nil, ev_mv, ev_pick, ev_not, bin_add, bin_gtr, ro_int, ro_bool, List.map_cons, List.map_nil, List.getD_cons_zero, List.getD_cons_succ, Bool.false_eq_true, ↓reduceIte, Bool.not_true, gt_iff_lt, wrap_i64]
    refine ⟨_, Forget.cutA (l := [_]) (x := [_]) ?_ (by simp) ?_ o1, ⟨i + 1, by omega, rowsTo_succ hall hil e1 (fun _ h => by omega), rfl⟩, by exact fin⟩
    · repeat first | exact fg_e | refine fg_d ?_ | refine fg_k rfl ?_
    · simp [idOks, idOk, idp]
  · have d0 : decide ((0 : Int) < (i : Int)) = true := by rw [decide_eq_true_eq]; omega
    have hp : i - 1 < ps.length := by omega
    have ei : (i : Int) - 1 = ((i - 1 : Nat) : Int) := by omega
    have c5 := ia (i - 1) hp
    have c3 := f0 (i - 1) hp
    have c1 := a1 (i - 1) hp
    have b2 := b1
    rcases bf (lt ps[i - 1].path ps[i].path) with e2 | e2
    · have er := rowsTo_not hil (fun h => by rw [h.2 hp (by omega)] at e2; cases e2)
      simp (maxSteps := 2000000) (disch := first | omega | simp only [List.length_append, List.length_cons, List.length_nil, List.length_map] <;> omega) only [d0, ei, c5, c3, c1, pget0, leq_strs, e2, q1, getA0, getA, Nat.add_zero, List.set_cons_zero, List.set_cons_succ, lpK_r, flg_bool, swp_seq, swp_reg, swp_ret, swp_cond, seqK_n, seqK_r, blkK_r, condK_t, evK_some, appK_eq, appC_eq, grd_t, srun_nil, srun_cons, stepK_grd, fin_ret, sk_mv, sk_give, sk_pick, sk_bin, sk_un, sk_fld, sk_idxA, sk_load, get_mk, raw_slot, raw_lit, put_some, wb_nil, ev_mv, ev_give, ev_pick, ev_not, ev_fld, bin_sub, bin_gtr, ev_ldP, ldP_some, ro_int, ro_bool, ro_str, List.map_cons, List.map_nil, List.getD_cons_zero, List.getD_cons_succ, List.getElem?_cons_zero, List.getElem?_cons_succ, Bool.false_eq_true, Option.map_some, ↓reduceIte, Nat.zero_add, Bool.not_true, Bool.not_false, gt_iff_lt, wrap_i64]
      first | exact ⟨_, trim1 ho rfl, by simp [rightM, er], rfl⟩ | exact ⟨_, trim1 ho rfl, by simp [rightM, er]⟩ | exact ⟨_, .same, by simp [rightM, er], rfl⟩
    · simp (maxSteps := 2000000) (disch := first | omega | simp only [List.length_append, List.length_cons, List.length_nil, List.length_map] <;> omega) only [d0, ei, c5, c3, c1, pget0, leq_strs, e2, q1, getA0, getA, Nat.add_zero, List.set_cons_zero, List.set_cons_succ, lpK_n, swp_reg, swp_skip, swp_cond, seqK_n, blkK_n, condK_f, evK_some, appK_eq, appC_eq, grd_t, srun_nil, srun_cons, stepK_grd, sk_mv, sk_pick, sk_bin, sk_un, sk_fld, sk_idxA, sk_load, get_mk, raw_slot, raw_lit, put_some, wb_nil, ev_mv, ev_pick, ev_not, ev_fld, bin_add, bin_sub, bin_gtr, ev_ldP, ldP_some, ro_int, ro_bool, ro_str, List.map_cons, List.map_nil, List.getD_cons_zero, List.getD_cons_succ, List.getElem?_cons_zero, List.getElem?_cons_succ, Bool.false_eq_true, Option.map_some, ↓reduceIte, Nat.zero_add, Bool.not_true, gt_iff_lt, wrap_i64]
      refine ⟨_, Forget.cutA (l := [_]) (x := [_]) ?_ (by simp) ?_ o1, ⟨i + 1, by omega, rowsTo_succ hall hil e1 (fun _ _ => e2), rfl⟩, by exact fin⟩
      · repeat first | exact fg_e | refine fg_d ?_ | refine fg_k rfl ?_
      · simp [idOks, idOk, idp]
end Go.Sh.F
namespace Go.Sh.F
open Go.PathLaw Go.Proofs
def KMf : List Ob → List SV → SV → Prop := fun st args r => ∃ m : Mf, m.ok st ∧ m.fit ∧ okSt st ∧ args = [.agg m.cells] ∧ r = .bool (rightM m)
def O35 : Orc := O34.add 18 (StC KMf)
theorem s35 : Sound Tryd.prog O35 := s34.addS c18 (by kernel_rfl) (by
  rintro args r st ⟨m, hm, hf, ho, rfl, rfl⟩
  exact ⟨by simp [sf18], g19 m st hm hf ho⟩)
set_option maxHeartbeats 16000000 in
theorem g22 (m : Mf) (st : List Ob) (hm : m.ok st) (hf : m.fit) (ho : okSt st) : swpF O35 sf19 [.agg m.cells] st (fun r st' => r = .bool (rightM m) ∧ st' = st) := by
  have o1 := okM hm ho
  have pk := fun i (hi : i < m.ps.length) => (hm.2.2 _ (List.getElem_mem hi)).mono [.cells m.cells]
  have a0 := fun i (hi : i < m.ps.length) => hm.at' hi [.cells m.cells]
  have a1 := fun i (hi : i < m.ps.length) => hm.path hi [.cells m.cells]
  have f0 := fun i (hi : i < m.ps.length) => hm.f0 hi
  have ia := fun i (hi : i < m.ps.length) => hm.1.idxA hi .i64
  have ro7 := fun i (hi : i < m.ps.length) => ro1_pc (hm.2.2 _ (List.getElem_mem hi))
  have idp := hm.idp 1
  have hb := hm.2.1
  obtain ⟨q1, q2, q3, q4, q6, q7⟩ := hm.1.facts
  have q5 := hm.1.lenL
  obtain ⟨au, ve, pr, ep, ne, se, sh, pv, ps⟩ := m
  simp only [Mf.cells, Mf.fit] at idp o1 pk a0 a1 f0 ia ro7 q1 q2 q3 q4 q5 q6 q7 hb hf ⊢
  simp (maxSteps := 2000000) (disch := first | omega | simp only [List.length_append, List.length_cons, List.length_nil, List.length_map] <;> omega) only [sf19, q6, q7, cv_agg, cell_int, getA0, Nat.add_zero, List.set_cons_zero, List.set_cons_succ, flg_bool, exc_int, exc_agg, swp_seq, swp_reg, seqK_n, evK_some, appK_eq, srun_nil, srun_cons, stepK_call, swpF_eq, sk_give, sk_fld, sk_load, sk_box, get_mk, raw_slot, raw_lit, put_some, wb_nil, ev_give, ev_fld, ev_box, ev_ldP, ldP_some, ro_int, ro_bool, ro1_int, got_int, got_agg, pubs, pubsFrom, List.map_cons, List.map_nil, List.getD_cons_zero, List.getD_cons_succ, List.getElem?_cons_zero, List.length_cons, List.length_nil, List.replicate_succ, List.replicate_zero, List.cons_append, List.nil_append, Nat.reduceSub, Bool.false_eq_true, Option.map_some, ↓reduceIte, List.all_cons, List.all_nil, Bool.and_self, Nat.zero_add]
  refine callK_intro ((.inl (.inl (.inl (.inl (r35)))))) ?_
  rcases bf (wth 1 au) with h1 | h1
  · rw [h1]
    simp (maxSteps := 2000000) (disch := first | omega | simp only [List.length_append, List.length_cons, List.length_nil, List.length_map] <;> omega) only [List.set_cons_zero, List.set_cons_succ, flg_bool, grd_s, swp_seq, swp_reg, swp_ret, swp_cond, seqK_n, seqK_r, condK_t, evK_some, appK_eq, appC_eq, grd_t, srun_nil, srun_cons, stepK_grd, fin_ret, sk_mv, sk_give, sk_pick, sk_un, get_mk, raw_slot, raw_lit, put_some, wb_nil, ev_mv, ev_give, ev_pick, ev_not, ro_bool, List.map_cons, List.map_nil, List.getD_cons_zero, List.getD_cons_succ, Bool.false_eq_true, ↓reduceIte, reduceCtorEq, Bool.not_false]
    first | exact ⟨_, trim1 ho rfl, by simp [rightM, headM, h1], rfl⟩ | exact ⟨_, trim1 ho rfl, by simp [rightM, headM, h1]⟩ | exact ⟨_, .same, by simp [rightM, headM, h1], rfl⟩
  rw [h1]
  rcases bt (decide (ve < 1)) with h2 | h2
  · have e2 : decide (1 ≤ ve) = false := by simp at h2 ⊢; omega
    simp (maxSteps := 2000000) (disch := first | omega | simp only [List.length_append, List.length_cons, List.length_nil, List.length_map] <;> omega) only [h2, getA0, List.set_cons_zero, List.set_cons_succ, flg_bool, grd_s, swp_seq, swp_reg, swp_ret, swp_cond, seqK_n, seqK_r, condK_t, evK_some, appK_eq, appC_eq, grd_t, srun_nil, srun_cons, stepK_grd, fin_ret, sk_mv, sk_give, sk_pick, sk_bin, sk_un, sk_fld, sk_load, get_mk, raw_slot, raw_lit, put_some, wb_nil, ev_mv, ev_give, ev_pick, ev_not, ev_fld, bin_lss, ev_ldP, ldP_some, ro_int, ro_bool, List.map_cons, List.map_nil, List.getD_cons_zero, List.getD_cons_succ, List.getElem?_cons_zero, List.getElem?_cons_succ, Bool.false_eq_true, Option.map_some, ↓reduceIte, Nat.zero_add, reduceCtorEq, Bool.not_true]
    first | exact ⟨_, trim1 ho rfl, by simp [rightM, headM, e2], rfl⟩ | exact ⟨_, trim1 ho rfl, by simp [rightM, headM, e2]⟩ | exact ⟨_, .same, by simp [rightM, headM, e2], rfl⟩
  have e2 : decide (1 ≤ ve) = true := by simp at h2 ⊢; omega
  rcases bt (decide (200 < ve)) with h3 | h3
  · have e3 : decide (ve ≤ 200) = false := by simp at h3 ⊢; omega
    simp (maxSteps := 2000000) (disch := first | omega | simp only [List.length_append, List.length_cons, List.length_nil, List.length_map] <;> omega) only [h2, h3, getA0, List.set_cons_zero, List.set_cons_succ, flg_bool, grd_s, swp_seq, swp_reg, swp_ret, swp_cond, seqK_n, seqK_r, condK_t, evK_some, appK_eq, appC_eq, grd_t, srun_nil, srun_cons, stepK_grd, fin_ret, sk_mv, sk_give, sk_pick, sk_bin, sk_un, sk_fld, sk_load, get_mk, raw_slot, raw_lit, put_some, wb_nil, ev_mv, ev_give, ev_pick, ev_not, ev_fld, bin_lss, bin_gtr, ev_ldP, ldP_some, ro_int, ro_bool, List.map_cons, List.map_nil, List.getD_cons_zero, List.getD_cons_succ, List.getElem?_cons_zero, List.getElem?_cons_succ, Bool.false_eq_true, Option.map_some, ↓reduceIte, Nat.zero_add, reduceCtorEq, Bool.not_true, gt_iff_lt]
    first | exact ⟨_, trim1 ho rfl, by simp [rightM, headM, e3], rfl⟩ | exact ⟨_, trim1 ho rfl, by simp [rightM, headM, e3]⟩ | exact ⟨_, .same, by simp [rightM, headM, e3], rfl⟩
  have e3 : decide (ve ≤ 200) = true := by simp at h3 ⊢; omega
  simp (maxSteps := 2000000) (disch := first | omega | simp only [List.length_append, List.length_cons, List.length_nil, List.length_map] <;> omega) only [h2, h3, getA0, List.set_cons_zero, List.set_cons_succ, exc_int, evK_some, appK_eq, appC_eq, grd_t, srun_cons, stepK_call, stepK_grd, sk_mv, sk_pick, sk_bin, sk_un, sk_fld, sk_load, get_mk, raw_slot, raw_lit, put_some, wb_nil, ev_mv, ev_pick, ev_not, ev_fld, bin_lss, bin_gtr, ev_ldP, ldP_some, ro_int, ro_bool, got_int, pubs, pubsFrom, List.map_cons, List.map_nil, List.getD_cons_zero, List.getD_cons_succ, List.getElem?_cons_zero, List.getElem?_cons_succ, Bool.false_eq_true, Option.map_some, ↓reduceIte, Nat.zero_add, Bool.not_true, gt_iff_lt]
  refine callK_intro ((.inl (.inl (.inl (.inl (r35)))))) ?_
  rcases bf (wth 4294967295 pr) with h4 | h4
  · rw [h4]
    simp (maxSteps := 2000000) (disch := first | omega | simp only [List.length_append, List.length_cons, List.length_nil, List.length_map] <;> omega) only [List.set_cons_zero, List.set_cons_succ, flg_bool, grd_s, swp_seq, swp_reg, swp_ret, swp_cond, seqK_n, seqK_r, condK_t, evK_some, appK_eq, appC_eq, grd_t, srun_nil, srun_cons, stepK_grd, fin_ret, sk_mv, sk_give, sk_pick, sk_un, get_mk, raw_slot, raw_lit, put_some, wb_nil, ev_mv, ev_give, ev_pick, ev_not, ro_bool, List.map_cons, List.map_nil, List.getD_cons_zero, List.getD_cons_succ, Bool.false_eq_true, ↓reduceIte, reduceCtorEq, Bool.not_false]
    first | exact ⟨_, trim1 ho rfl, by simp [rightM, headM, h4], rfl⟩ | exact ⟨_, trim1 ho rfl, by simp [rightM, headM, h4]⟩ | exact ⟨_, .same, by simp [rightM, headM, h4], rfl⟩
  rw [h4]
  simp (maxSteps := 2000000) (disch := first | omega | simp only [List.length_append, List.length_cons, List.length_nil, List.length_map] <;> omega) only [getA0, List.set_cons_zero, List.set_cons_succ, exc_int, evK_some, appK_eq, appC_eq, grd_t, srun_cons, stepK_call, stepK_grd, sk_mv, sk_pick, sk_un, sk_fld, sk_load, get_mk, raw_slot, raw_lit, put_some, wb_nil, ev_mv, ev_pick, ev_not, ev_fld, ev_ldP, ldP_some, ro_int, ro_bool, got_int, pubs, pubsFrom, List.map_cons, List.map_nil, List.getD_cons_zero, List.getD_cons_succ, List.getElem?_cons_zero, List.getElem?_cons_succ, Bool.false_eq_true, Option.map_some, ↓reduceIte, Nat.zero_add, Bool.not_true]
  refine callK_intro ((.inl (.inl (.inl (.inl (r35)))))) ?_
  rcases bf (wth 4294967295 se) with h5 | h5
  · rw [h5]
    simp (maxSteps := 2000000) (disch := first | omega | simp only [List.length_append, List.length_cons, List.length_nil, List.length_map] <;> omega) only [List.set_cons_zero, List.set_cons_succ, flg_bool, grd_s, swp_seq, swp_reg, swp_ret, swp_cond, seqK_n, seqK_r, condK_t, evK_some, appK_eq, appC_eq, grd_t, srun_nil, srun_cons, stepK_grd, fin_ret, sk_mv, sk_give, sk_pick, sk_un, get_mk, raw_slot, raw_lit, put_some, wb_nil, ev_mv, ev_give, ev_pick, ev_not, ro_bool, List.map_cons, List.map_nil, List.getD_cons_zero, List.getD_cons_succ, Bool.false_eq_true, ↓reduceIte, reduceCtorEq, Bool.not_false]
    first | exact ⟨_, trim1 ho rfl, by simp [rightM, headM, h5], rfl⟩ | exact ⟨_, trim1 ho rfl, by simp [rightM, headM, h5]⟩ | exact ⟨_, .same, by simp [rightM, headM, h5], rfl⟩
  rw [h5]
  simp (maxSteps := 2000000) (disch := first | omega | simp only [List.length_append, List.length_cons, List.length_nil, List.length_map] <;> omega) only [getA0, List.set_cons_zero, List.set_cons_succ, exc_int, evK_some, appK_eq, appC_eq, grd_t, srun_cons, stepK_call, stepK_grd, sk_mv, sk_pick, sk_un, sk_fld, sk_load, get_mk, raw_slot, raw_lit, put_some, wb_nil, ev_mv, ev_pick, ev_not, ev_fld, ev_ldP, ldP_some, ro_int, ro_bool, got_int, pubs, pubsFrom, List.map_cons, List.map_nil, List.getD_cons_zero, List.getD_cons_succ, List.getElem?_cons_zero, List.getElem?_cons_succ, Bool.false_eq_true, Option.map_some, ↓reduceIte, Nat.zero_add, Bool.not_true]
  refine callK_intro ((.inl (.inl (.inl (.inl (r35)))))) ?_
  rcases bf (wth 4294967295 sh) with h6 | h6
  · rw [h6]
    simp (maxSteps := 2000000) (disch := first | omega | simp only [List.length_append, List.length_cons, List.length_nil, List.length_map] <;> omega) only [List.set_cons_zero, List.set_cons_succ, flg_bool, grd_s, swp_seq, swp_reg, swp_ret, swp_cond, seqK_n, seqK_r, condK_t, evK_some, appK_eq, appC_eq, grd_t, srun_nil, srun_cons, stepK_grd, fin_ret, sk_mv, sk_give, sk_pick, sk_un, get_mk, raw_slot, raw_lit, put_some, wb_nil, ev_mv, ev_give, ev_pick, ev_not, ro_bool, List.map_cons, List.map_nil, List.getD_cons_zero, List.getD_cons_succ, Bool.false_eq_true, ↓reduceIte, reduceCtorEq, Bool.not_false]
    first | exact ⟨_, trim1 ho rfl, by simp [rightM, headM, h6], rfl⟩ | exact ⟨_, trim1 ho rfl, by simp [rightM, headM, h6]⟩ | exact ⟨_, .same, by simp [rightM, headM, h6], rfl⟩
  rw [h6]
  simp (maxSteps := 2000000) (disch := first | omega | simp only [List.length_append, List.length_cons, List.length_nil, List.length_map] <;> omega) only [getA0, List.set_cons_zero, List.set_cons_succ, exc_int, evK_some, appK_eq, appC_eq, grd_t, srun_cons, stepK_call, stepK_grd, sk_mv, sk_pick, sk_un, sk_fld, sk_load, get_mk, raw_slot, raw_lit, put_some, wb_nil, ev_mv, ev_pick, ev_not, ev_fld, ev_ldP, ldP_some, ro_int, ro_bool, got_int, pubs, pubsFrom, List.map_cons, List.map_nil, List.getD_cons_zero, List.getD_cons_succ, List.getElem?_cons_zero, List.getElem?_cons_succ, Bool.false_eq_true, Option.map_some, ↓reduceIte, Nat.zero_add, Bool.not_true]
  refine callK_intro ((.inl (.inl (.inl (.inl (r35)))))) ?_
  rcases bf (wth 100 ep) with h7 | h7
  · rw [h7]
    simp (maxSteps := 2000000) (disch := first | omega | simp only [List.length_append, List.length_cons, List.length_nil, List.length_map] <;> omega) only [List.set_cons_zero, List.set_cons_succ, flg_bool, grd_s, swp_seq, swp_reg, swp_ret, swp_cond, seqK_n, seqK_r, condK_t, evK_some, appK_eq, appC_eq, grd_t, srun_nil, srun_cons, stepK_grd, fin_ret, sk_mv, sk_give, sk_pick, sk_un, get_mk, raw_slot, raw_lit, put_some, wb_nil, ev_mv, ev_give, ev_pick, ev_not, ro_bool, List.map_cons, List.map_nil, List.getD_cons_zero, List.getD_cons_succ, Bool.false_eq_true, ↓reduceIte, reduceCtorEq, Bool.not_false]
    first | exact ⟨_, trim1 ho rfl, by simp [rightM, headM, h7], rfl⟩ | exact ⟨_, trim1 ho rfl, by simp [rightM, headM, h7]⟩ | exact ⟨_, .same, by simp [rightM, headM, h7], rfl⟩
  rw [h7]
  simp (maxSteps := 2000000) (disch := first | omega | simp only [List.length_append, List.length_cons, List.length_nil, List.length_map] <;> omega) only [getA0, List.set_cons_zero, List.set_cons_succ, exc_int, evK_some, appK_eq, appC_eq, grd_t, srun_cons, stepK_call, stepK_grd, sk_mv, sk_pick, sk_un, sk_fld, sk_load, get_mk, raw_slot, raw_lit, put_some, wb_nil, ev_mv, ev_pick, ev_not, ev_fld, ev_ldP, ldP_some, ro_int, ro_bool, got_int, pubs, pubsFrom, List.map_cons, List.map_nil, List.getD_cons_zero, List.getD_cons_succ, List.getElem?_cons_zero, List.getElem?_cons_succ, Bool.false_eq_true, Option.map_some, ↓reduceIte, Nat.zero_add, Bool.not_true]
  refine callK_intro ((.inl (.inl (.inl (.inl (r35)))))) ?_
  rcases bf (wth 100 ne) with h8 | h8
  · rw [h8]
    simp (maxSteps := 2000000) (disch := first | omega | simp only [List.length_append, List.length_cons, List.length_nil, List.length_map] <;> omega) only [List.set_cons_zero, List.set_cons_succ, flg_bool, grd_s, swp_seq, swp_reg, swp_ret, swp_cond, seqK_n, seqK_r, condK_t, evK_some, appK_eq, appC_eq, grd_t, srun_nil, srun_cons, stepK_grd, fin_ret, sk_mv, sk_give, sk_pick, sk_un, get_mk, raw_slot, raw_lit, put_some, wb_nil, ev_mv, ev_give, ev_pick, ev_not, ro_bool, List.map_cons, List.map_nil, List.getD_cons_zero, List.getD_cons_succ, Bool.false_eq_true, ↓reduceIte, reduceCtorEq, Bool.not_false]
    first | exact ⟨_, trim1 ho rfl, by simp [rightM, headM, h8], rfl⟩ | exact ⟨_, trim1 ho rfl, by simp [rightM, headM, h8]⟩ | exact ⟨_, .same, by simp [rightM, headM, h8], rfl⟩
  rw [h8]
  have b8 : -100 ≤ ep ∧ ep ≤ 100 := by simp only [wth, Bool.and_eq_true, decide_eq_true_eq] at h7; omega
  have h9 := phz
  have h10 := phz
  rcases bt (ne == ep) with h9 | h9
  rotate_left
  rcases bt (ne == ep + 1) with h10 | h10
  rotate_left
  · have e9 : (ne == ep || ne == ep + 1) = false := by rw [h9, h10]; rfl
    simp (maxSteps := 2000000) (disch := first | omega | simp only [List.length_append, List.length_cons, List.length_nil, List.length_map] <;> omega) only [h9, h10, nbI, getA0, List.set_cons_zero, List.set_cons_succ, flg_bool, exc_bool, swp_seq, swp_reg, swp_ret, swp_cond, seqK_n, seqK_r, condK_t, evK_some, appK_eq, appC_eq, grd_t, srun_nil, srun_cons, stepK_grd, fin_ret, sk_mv, sk_take, sk_give, sk_pick, sk_bin, sk_un, sk_fld, sk_load, get_mk, raw_slot, raw_lit, put_some, wb_nil, ev_mv, ev_take, ev_give, ev_pick, ev_not, ev_fld, bin_add, bin_neq, ev_ldP, ldP_some, ro_int, ro_bool, got_bool, List.map_cons, List.map_nil, List.getD_cons_zero, List.getD_cons_succ, List.getElem?_cons_zero, List.getElem?_cons_succ, Bool.false_eq_true, Option.map_some, ↓reduceIte, Nat.zero_add, reduceCtorEq, Bool.not_true, Bool.not_false, wrap_i64]
    first | exact ⟨_, trim1 ho rfl, by simp [rightM, headM, e9], rfl⟩ | exact ⟨_, trim1 ho rfl, by simp [rightM, headM, e9]⟩ | exact ⟨_, .same, by simp [rightM, headM, e9], rfl⟩
  all_goals
    have e9 : (ne == ep || ne == ep + 1) = true := by
      rcases bt (ne == ep) with e | e
      · rw [e]; rfl
      · simp_all
    have eh : headM ⟨au, ve, pr, ep, ne, se, sh, pv, ps⟩ = true := by
      unfold headM; simp only [h1, e2, e3, h4, h5, h6, h7, h8, e9, Bool.and_self]
    rcases bt (decide (32 < (ps.length : Int))) with h11 | h11
    · simp (maxSteps := 2000000) (disch := first | omega | simp only [List.length_append, List.length_cons, List.length_nil, List.length_map] <;> omega) only [h9, h10, h11, q1, q5, nbI, getA0, List.set_cons_zero, List.set_cons_succ, flg_bool, exc_bool, swp_seq, swp_reg, swp_ret, swp_cond, seqK_n, seqK_r, condK_t, evK_some, appK_eq, appC_eq, grd_t, srun_nil, srun_cons, stepK_grd, fin_ret, sk_mv, sk_take, sk_give, sk_pick, sk_bin, sk_un, sk_fld, sk_load, sk_lenL, get_mk, raw_slot, raw_lit, put_some, wb_nil, ev_mv, ev_take, ev_give, ev_pick, ev_not, ev_fld, bin_add, bin_neq, bin_gtr, ev_ldP, ldP_some, ro_int, ro_bool, got_bool, List.map_cons, List.map_nil, List.getD_cons_zero, List.getD_cons_succ, List.getElem?_cons_zero, List.getElem?_cons_succ, Bool.false_eq_true, Option.map_some, ↓reduceIte, Nat.zero_add, Bool.not_true, Bool.not_false, gt_iff_lt, wrap_i64]
      exact ⟨_, trim1 ho rfl, by simp [rightM] at h11 ⊢; omega, rfl⟩
    simp (maxSteps := 2000000) (disch := first | omega | simp only [List.length_append, List.length_cons, List.length_nil, List.length_map] <;> omega) only [h9, h10, h11, q1, q5, nbI, getA0, List.set_cons_zero, List.set_cons_succ, exc_bool, exc_int, swp_seq, swp_reg, swp_skip, swp_block, swp_cond, seqK_n, condK_f, evK_some, appK_eq, appC_eq, grd_t, srun_nil, srun_cons, stepK_grd, sk_mv, sk_take, sk_pick, sk_bin, sk_un, sk_fld, sk_load, sk_lenL, get_mk, raw_slot, raw_lit, put_some, wb_nil, ev_mv, ev_take, ev_pick, ev_not, ev_fld, bin_add, bin_neq, bin_gtr, ev_ldP, ldP_some, ro_int, ro_bool, got_int, got_bool, List.map_cons, List.map_nil, List.getD_cons_zero, List.getD_cons_succ, List.getElem?_cons_zero, List.getElem?_cons_succ, Bool.false_eq_true, Option.map_some, ↓reduceIte, Nat.zero_add, Bool.not_true, Bool.not_false, gt_iff_lt, wrap_i64]
    refine swp_lp (fun S => ∃ (i : Nat), i ≤ ps.length ∧ rowsTo ps i ∧
        S = ⟨[.undef, .ptr st.length 0, .undef, .int .i64 i] ++ List.replicate 99 .undef, st ++ [.cells [.int .i64 au, .int .i64 ve, .int .i64 pr, .int .i64 ep, .int .i64 ne, .int .i64 se, .int .i64 sh, pv]]⟩)
        (fun S => match S.get 3 with | .int _ k => ((ps.length : Int) - k).toNat | _ => 0)
        ⟨[.undef, .ptr st.length 0, .undef, .int .i64 0] ++ List.replicate 99 .undef, st ++ [.cells [.int .i64 au, .int .i64 ve, .int .i64 pr, .int .i64 ep, .int .i64 ne, .int .i64 se, .int .i64 sh, pv]]⟩ ?_ ⟨0, Nat.zero_le _, fun j z h => by omega, rfl⟩ ?_
    · refine Forget.of ?_
      repeat first | exact fg_e | refine fg_d ?_ | refine fg_k rfl ?_
    rintro S ⟨i, hi, hall, rfl⟩
    by_cases him : i = ps.length
    · have hd : decide ((i : Int) < (ps.length : Int)) = false := by rw [decide_eq_false_iff_not]; omega
      rw [him] at hall
      have er := rowsTo_all hall
      simp (maxSteps := 2000000) (disch := first | omega | simp only [List.length_append, List.length_cons, List.length_nil, List.length_map] <;> omega) only [hd, q1, q5, getA0, List.set_cons_zero, List.set_cons_succ, lpK_e, flg_bool, swp_seq, swp_reg, swp_ret, swp_exit, swp_cond, seqK_n, seqK_e, blkK_e, condK_f, evK_some, appK_eq, srun_nil, srun_cons, fin_ret, sk_mv, sk_give, sk_bin, sk_fld, sk_load, sk_lenL, get_mk, raw_slot, raw_lit, put_some, wb_nil, ev_mv, ev_give, ev_fld, bin_lss, ev_ldP, ldP_some, ro_int, ro_bool, List.map_cons, List.map_nil, List.getD_cons_zero, List.getD_cons_succ, List.getElem?_cons_zero, List.getElem?_cons_succ, List.length_cons, List.length_nil, List.replicate_succ, List.replicate_zero, List.cons_append, List.nil_append, Bool.false_eq_true, Option.map_some, ↓reduceIte, Nat.zero_add, List.length_append]
      exact ⟨_, trim1 ho rfl, by simp [rightM, eh, er] at h11 ⊢; omega, rfl⟩
    have hd : decide ((i : Int) < (ps.length : Int)) = true := by rw [decide_eq_true_eq]; omega
    have hil : i < ps.length := by omega
    have fin : ((ps.length : Int) - ((i + 1 : Nat) : Int)).toNat < ((ps.length : Int) - (i : Int)).toNat := by omega
    have b0 := a0 i hil
    have b1 := a1 i hil
    have b3 := f0 i hil
    have b5 := ia i hil
    have b7 := ro7 i hil
    simp (maxSteps := 2000000) (disch := first | omega | simp only [List.length_append, List.length_cons, List.length_nil, List.length_map] <;> omega) only [hd, b0, b5, b7, q1, q5, getA0, List.set_cons_zero, List.set_cons_succ, exc_agg, swp_seq, swp_reg, swp_skip, swp_block, swp_cond, seqK_n, condK_t, evK_some, appK_eq, srun_nil, srun_cons, stepK_call, sk_mv, sk_bin, sk_fld, sk_idxA, sk_load, sk_lenL, get_mk, raw_slot, put_some, wb_nil, ev_mv, ev_fld, bin_lss, ev_ldP, ldP_some, ro_int, got_agg, pubs, pubsFrom, List.map_cons, List.map_nil, List.getD_cons_zero, List.getD_cons_succ, List.getElem?_cons_zero, List.getElem?_cons_succ, List.length_cons, List.length_nil, List.replicate_succ, List.replicate_zero, List.cons_append, List.nil_append, Bool.false_eq_true, Option.map_some, ↓reduceIte, Nat.zero_add, List.length_append]
    refine callK_intro (.inl (r36 (pk i hil) o1)) ?_
    rcases bf (rightP ps[i]) with e1 | e1
    · rw [e1]
      have er := rowsTo_not hil (by rw [e1]; simp)
      simp (maxSteps := 2000000) (disch := first | omega | simp only [List.length_append, List.length_cons, List.length_nil, List.length_map] <;> omega) only [List.set_cons_zero, List.set_cons_succ, lpK_r, flg_bool, grd_s, swp_seq, swp_reg, swp_ret, swp_cond, seqK_n, seqK_r, blkK_r, condK_t, evK_some, appK_eq, appC_eq, grd_t, srun_nil, srun_cons, stepK_grd, fin_ret, sk_mv, sk_give, sk_pick, sk_un, get_mk, raw_slot, raw_lit, put_some, wb_nil, ev_mv, ev_give, ev_pick, ev_not, ro_bool, List.map_cons, List.map_nil, List.getD_cons_zero, List.getD_cons_succ, Bool.false_eq_true, ↓reduceIte, reduceCtorEq, Bool.not_false]
      first | exact ⟨_, trim1 ho rfl, by simp [rightM, er], rfl⟩ | exact ⟨_, trim1 ho rfl, by simp [rightM, er]⟩ | exact ⟨_, .same, by simp [rightM, er], rfl⟩
    rw [e1]
    by_cases h0 : i = 0
    · have d0 : decide ((0 : Int) < (i : Int)) = false := by rw [decide_eq_false_iff_not]; omega
      simp (maxSteps := 2000000) (disch := first | omega | simp only [List.length_append, List.length_cons, List.length_nil, List.length_map] <;> omega) only [d0, List.set_cons_zero, List.set_cons_succ, lpK_n, flg_int, swp_reg, swp_skip, swp_cond, seqK_n, blkK_n, condK_f, evK_some, appK_eq, appC_eq, grd_t, srun_nil, srun_cons, stepK_grd, sk_mv, sk_give, sk_pick, sk_bin, sk_un, get_mk, raw_slot, raw_lit, put_some, wb_nil, ev_mv, ev_give, ev_pick, ev_not, bin_add, bin_gtr, ro_int, ro_bool, List.map_cons, List.map_nil, List.getD_cons_zero, List.getD_cons_succ, Bool.false_eq_true, ↓reduceIte, Bool.not_true, gt_iff_lt, wrap_i64]
      refine ⟨_, ?_, ⟨i + 1, by omega, rowsTo_succ hall hil e1 (fun _ h => by omega), rfl⟩, by exact fin⟩
      refine Forget.of ?_
      repeat first | exact fg_e | refine fg_d ?_ | refine fg_k rfl ?_
    · have d0 : decide ((0 : Int) < (i : Int)) = true := by rw [decide_eq_true_eq]; omega
      have hp : i - 1 < ps.length := by omega
      have ei : (i : Int) - 1 = ((i - 1 : Nat) : Int) := by omega
      have c5 := ia (i - 1) hp
      have c3 := f0 (i - 1) hp
      have c1 := a1 (i - 1) hp
      rcases bf (lt ps[i - 1].path ps[i].path) with e2 | e2
      · have er := rowsTo_not hil (fun h => by rw [h.2 hp (by omega)] at e2; cases e2)
        simp (maxSteps := 2000000) (disch := first | omega | simp only [List.length_append, List.length_cons, List.length_nil, List.length_map] <;> omega) only [d0, ei, b1, b3, b5, c5, c3, c1, leq_strs, e2, q1, getA0, List.set_cons_zero, List.set_cons_succ, lpK_r, flg_bool, swp_seq, swp_reg, swp_ret, swp_cond, seqK_n, seqK_r, blkK_r, condK_t, evK_some, appK_eq, appC_eq, grd_t, srun_nil, srun_cons, stepK_grd, fin_ret, sk_mv, sk_give, sk_pick, sk_bin, sk_un, sk_fld, sk_idxA, sk_load, get_mk, raw_slot, raw_lit, put_some, wb_nil, ev_mv, ev_give, ev_pick, ev_not, ev_fld, bin_sub, bin_gtr, ev_ldP, ldP_some, ro_int, ro_bool, List.map_cons, List.map_nil, List.getD_cons_zero, List.getD_cons_succ, List.getElem?_cons_zero, List.getElem?_cons_succ, Bool.false_eq_true, Option.map_some, ↓reduceIte, Nat.zero_add, Bool.not_true, Bool.not_false, gt_iff_lt, wrap_i64]
        first | exact ⟨_, trim1 ho rfl, by simp [rightM, er], rfl⟩ | exact ⟨_, trim1 ho rfl, by simp [rightM, er]⟩ | exact ⟨_, .same, by simp [rightM, er], rfl⟩
      · simp (maxSteps := 2000000) (disch := first | omega | simp only [List.length_append, List.length_cons, List.length_nil, List.length_map] <;> omega) only [d0, ei, b1, b3, b5, c5, c3, c1, leq_strs, e2, q1, getA0, List.set_cons_zero, List.set_cons_succ, lpK_n, flg_int, swp_reg, swp_skip, swp_cond, seqK_n, blkK_n, condK_f, evK_some, appK_eq, appC_eq, grd_t, srun_nil, srun_cons, stepK_grd, sk_mv, sk_give, sk_pick, sk_bin, sk_un, sk_fld, sk_idxA, sk_load, get_mk, raw_slot, raw_lit, put_some, wb_nil, ev_mv, ev_give, ev_pick, ev_not, ev_fld, bin_add, bin_sub, bin_gtr, ev_ldP, ldP_some, ro_int, ro_bool, List.map_cons, List.map_nil, List.getD_cons_zero, List.getD_cons_succ, List.getElem?_cons_zero, List.getElem?_cons_succ, Bool.false_eq_true, Option.map_some, ↓reduceIte, Nat.zero_add, Bool.not_true, gt_iff_lt, wrap_i64]
        refine ⟨_, ?_, ⟨i + 1, by omega, rowsTo_succ hall hil e1 (fun _ _ => e2), rfl⟩, by exact fin⟩
        refine Forget.of ?_
        repeat first | exact fg_e | refine fg_d ?_ | refine fg_k rfl ?_
def O36 : Orc := O35.add 19 (StC KMf)
theorem s36 : Sound Tryd.prog O36 := s35.addS c19 (by kernel_rfl) (by
  rintro args r st ⟨m, hm, hf, ho, rfl, rfl⟩
  exact ⟨by simp [sf19], g22 m st hm hf ho⟩)
end Go.Sh.F
namespace Go.Sh.F
open Go.Proofs
def O100 : Orc := O36
theorem s100 : Sound Tryd.prog O100 := s36
end Go.Sh.F
namespace Go.Sh.F
open Go.PathLaw Go.Proofs
theorem beq_take {l k : List Int} {i : Nat} (h : l.take i = k.take i) (hl : i < l.length) (hk : i < k.length) (e : l[i] = k[i]) : l.take (i + 1) = k.take (i + 1) := by
  rw [← List.take_append_getElem hl, ← List.take_append_getElem hk, h, e]
set_option maxHeartbeats 4000000 in
theorem g25 (O : Orc) (v : SV) (l : List Int) (w : SV) (k : List Int) (st : List Ob) (hv : RowI st v l) (hw : RowI st w k) (hl : l.length ≤ 1099511627776) : swpF O sf15 [v, w] st (fun r st' => r = .bool (decide (l = k)) ∧ st' = st) := by
  obtain ⟨q1, q2, q3, q4, q6, q7⟩ := hv.facts
  obtain ⟨u1, u2, u3, u4, u6, u7⟩ := hw.facts
  have q5 := hv.lenL
  have u5 := hw.lenL
  rcases bf ((l.length : Int) == (k.length : Int)) with h1 | h1
  · have e : decide (l = k) = false := by rw [decide_eq_false_iff_not]; rintro rfl; simp at h1
    rw [e]
    simp (maxSteps := 2000000) (disch := first | omega | simp only [List.length_append, List.length_cons, List.length_nil, List.length_map] <;> omega) only [sf15, h1, q1, q5, u1, u5, nbI, List.set_cons_zero, List.set_cons_succ, flg_bool, swp_seq, swp_reg, swp_ret, swp_cond, seqK_n, seqK_r, condK_t, evK_some, appK_eq, srun_nil, srun_cons, fin_ret, swpF_eq, sk_mv, sk_give, sk_bin, sk_lenL, get_mk, raw_slot, raw_lit, put_some, wb_nil, ev_mv, ev_give, bin_neq, ro_bool, List.map_cons, List.map_nil, List.getD_cons_zero, List.getD_cons_succ, List.length_cons, List.length_nil, List.replicate_succ, List.replicate_zero, List.cons_append, List.nil_append, Nat.reduceAdd, Nat.reduceSub, true_and, Bool.false_eq_true, ↓reduceIte, Nat.zero_add, Bool.not_false]
    first | exact ⟨_, .same⟩ | exact ⟨_, .same, rfl⟩ | exact ⟨_, .same, rfl, rfl⟩
  have hlk : l.length = k.length := by rw [beq_iff_eq] at h1; omega
  simp (maxSteps := 2000000) (disch := first | omega | simp only [List.length_append, List.length_cons, List.length_nil, List.length_map] <;> omega) only [sf15, h1, q1, q5, u1, u5, nbI, List.set_cons_zero, List.set_cons_succ, flg_bool, exc_int, swp_seq, swp_reg, swp_skip, swp_block, swp_cond, seqK_n, condK_f, evK_some, appK_eq, srun_nil, srun_cons, swpF_eq, sk_mv, sk_take, sk_give, sk_bin, sk_lenL, get_mk, raw_slot, raw_lit, put_some, wb_nil, ev_mv, ev_take, ev_give, bin_neq, ro_bool, got_int, List.map_cons, List.map_nil, List.getD_cons_zero, List.getD_cons_succ, List.length_cons, List.length_nil, List.replicate_succ, List.replicate_zero, List.cons_append, List.nil_append, Nat.reduceAdd, Nat.reduceSub, Bool.false_eq_true, ↓reduceIte, Nat.zero_add, Bool.not_true]
  refine swp_lp (fun S => ∃ (i : Nat), i ≤ l.length ∧ l.take i = k.take i ∧ S = ⟨[v, w, .undef, .undef, .undef, .int .i64 i] ++ List.replicate 20 .undef, st⟩)
      (fun S => match S.get 5 with | .int _ k => ((l.length : Int) - k).toNat | _ => 0)
      ⟨[v, w, .undef, .undef, .undef, .int .i64 0] ++ List.replicate 20 .undef, st⟩ ?_ ⟨0, Nat.zero_le _, rfl, rfl⟩ ?_
  · refine Forget.of ?_
    repeat first | exact fg_e | refine fg_d ?_ | refine fg_k rfl ?_
  rintro S ⟨i, hi, hall, rfl⟩
  by_cases him : i = l.length
  · have hd : decide ((i : Int) < (l.length : Int)) = false := by rw [decide_eq_false_iff_not]; omega
    have e : decide (l = k) = true := by
      rw [decide_eq_true_eq]
      rw [him, List.take_length, hlk, List.take_length] at hall; exact hall
    rw [e]
    simp (maxSteps := 2000000) (disch := first | omega | simp only [List.length_append, List.length_cons, List.length_nil, List.length_map] <;> omega) only [hd, q1, q5, List.set_cons_zero, List.set_cons_succ, lpK_e, flg_bool, swp_seq, swp_reg, swp_ret, swp_exit, swp_cond, seqK_n, seqK_e, blkK_e, condK_f, evK_some, appK_eq, srun_nil, srun_cons, fin_ret, sk_mv, sk_give, sk_bin, sk_lenL, get_mk, raw_slot, raw_lit, put_some, wb_nil, ev_mv, ev_give, bin_lss, ro_int, ro_bool, List.map_cons, List.map_nil, List.getD_cons_zero, List.getD_cons_succ, List.replicate_succ, List.replicate_zero, List.cons_append, List.nil_append, true_and, Bool.false_eq_true, ↓reduceIte]
    first | exact ⟨_, .same⟩ | exact ⟨_, .same, rfl⟩ | exact ⟨_, .same, rfl, rfl⟩
  have hd : decide ((i : Int) < (l.length : Int)) = true := by rw [decide_eq_true_eq]; omega
  have hil : i < l.length := by omega
  have hik : i < k.length := by omega
  have fin : ((l.length : Int) - ((i + 1 : Nat) : Int)).toNat < ((l.length : Int) - (i : Int)).toNat := by omega
  have z1 := hv.idxA hil .i64
  rw [Nat.mul_one] at z1
  have z2 := hv.ld1' (isv_at (List.getElem?_eq_getElem hil))
  have y1 := hw.idxA hik .i64
  rw [Nat.mul_one] at y1
  have y2 := hw.ld1' (isv_at (List.getElem?_eq_getElem hik))
  rcases bf (l[i] == k[i]) with e1 | e1
  · have e : decide (l = k) = false := by rw [decide_eq_false_iff_not]; rintro rfl; simp at e1
    rw [e]
    simp (maxSteps := 2000000) (disch := first | omega | simp only [List.length_append, List.length_cons, List.length_nil, List.length_map] <;> omega) only [hd, z1, z2, y1, y2, e1, q1, q5, u1, nbI, List.set_cons_zero, List.set_cons_succ, lpK_r, flg_bool, swp_seq, swp_reg, swp_skip, swp_ret, swp_block, swp_cond, seqK_n, seqK_r, blkK_r, condK_t, evK_some, appK_eq, srun_nil, srun_cons, fin_ret, sk_mv, sk_give, sk_bin, sk_idxA, sk_load, sk_lenL, get_mk, raw_slot, raw_lit, put_some, wb_nil, ev_mv, ev_give, bin_neq, bin_lss, ro_int, ro_bool, List.map_cons, List.map_nil, List.getD_cons_zero, List.getD_cons_succ, List.replicate_succ, List.replicate_zero, List.cons_append, List.nil_append, true_and, Bool.false_eq_true, ↓reduceIte, Bool.not_false]
    first | exact ⟨_, .same⟩ | exact ⟨_, .same, rfl⟩ | exact ⟨_, .same, rfl, rfl⟩
  · simp (maxSteps := 2000000) (disch := first | omega | simp only [List.length_append, List.length_cons, List.length_nil, List.length_map] <;> omega) only [hd, z1, z2, y1, y2, e1, q1, q5, u1, nbI, List.set_cons_zero, List.set_cons_succ, lpK_n, flg_int, swp_seq, swp_reg, swp_skip, swp_block, swp_cond, seqK_n, blkK_n, condK_t, condK_f, evK_some, appK_eq, srun_nil, srun_cons, sk_mv, sk_give, sk_bin, sk_idxA, sk_load, sk_lenL, get_mk, raw_slot, raw_lit, put_some, wb_nil, ev_mv, ev_give, bin_add, bin_neq, bin_lss, ro_int, List.map_cons, List.map_nil, List.getD_cons_zero, List.getD_cons_succ, List.replicate_succ, List.replicate_zero, List.cons_append, List.nil_append, Bool.false_eq_true, ↓reduceIte, Bool.not_true, wrap_i64]
    refine ⟨_, ?_, ⟨i + 1, by omega, beq_take hall hil hik (by simpa using e1), rfl⟩, by exact fin⟩
    refine Forget.of ?_
    repeat first | exact fg_e | refine fg_d ?_ | refine fg_k rfl ?_
def KInts : List Ob → List SV → SV → Prop := fun st args r => ∃ (v : SV) (l : List Int) (w : SV) (k : List Int), RowI st v l ∧ RowI st w k ∧ l.length ≤ 1099511627776 ∧ args = [v, w] ∧ r = .bool (decide (l = k))
def O101 : Orc := O100.add 15 (StC KInts)
theorem s101 : Sound Tryd.prog O101 := s100.addS c15 (by kernel_rfl) (by
  rintro args r st ⟨v, l, w, k, hv, hw, hl, rfl, rfl⟩
  exact ⟨by simp [sf15], g25 _ v l w k st hv hw hl⟩)
def cpI (v : SV) (l : List Int) : SV := match v with | .nilS => .nilS | _ => .sl (isv l) l.length (.excl 1)
theorem cpI_not {v : SV} {l : List Int} (h : v ≠ .nilS) : cpI v l = .sl (isv l) l.length (.excl 1) := by cases v <;> first | rfl | exact absurd rfl h
theorem nil_or (v : SV) : v = .nilS ∨ v ≠ .nilS := by cases v <;> simp
theorem ro_isv (l : List Int) : (isv l).map ro = isv l := by
  induction l with
  | nil => rfl
  | cons x l ih => simp only [isv, List.map_cons] at ih ⊢; rw [ih]; rfl
theorem app_isv {st : List Ob} {v : SV} {l : List Int} (hv : RowI st v l) (hn : v ≠ .nilS) (hl : l.length ≤ 1048576) {z : List SV} : ev st (.app 1 8 z) [.sl [] 0 (.excl 1), v] = some (.sl (isv l) l.length (.excl 1), [(0, .undef)], st) := by
  obtain ⟨h1, ⟨rfl, _⟩ | ⟨fl, h2, rfl⟩ | ⟨id, off, c, rfl, h2, h3, h4⟩⟩ := hv
  · exact absurd rfl hn
  · rw [app_excl rfl h1 (by omega) (by omega), List.nil_append, Nat.zero_add]
  · rw [ev_appO, h2, apO_some, if_pos h3, h4, ro_isv, app_excl rfl h1 (by omega) (by omega), List.nil_append, Nat.zero_add]
theorem eqN_row {st s : List Ob} {v : SV} {es n : Nat} {cs : List SV} (hv : RowAt st v es n cs) (hn : v ≠ .nilS) : ev s (.eqN .s false) [v, .nilS] = some (.bool false, [], s) := by
  obtain ⟨h1, ⟨rfl, _⟩ | ⟨fl, rfl | rfl, rfl⟩ | ⟨id, off, c, rfl, h2, h3, h4⟩⟩ := hv
  · exact absurd rfl hn
  · rfl
  · rfl
  · rfl
theorem g38 (O : Orc) (v : SV) (l : List Int) (st : List Ob) (hv : RowI st v l) (hl : l.length ≤ 1048576) : swpF O sf28 [v] st (fun r st' => r = cpI v l ∧ st' = st) := by
  rcases nil_or v with rfl | hn
  · show swpF O sf28 [.nilS] st (fun r st' => r = .nilS ∧ st' = st)
    simp (maxSteps := 2000000) (disch := first | omega | simp only [List.length_append, List.length_cons, List.length_nil, List.length_map] <;> omega) only [sf28, List.set_cons_zero, List.set_cons_succ, flg_nilS, swp_seq, swp_reg, swp_ret, swp_cond, seqK_n, seqK_r, condK_t, evK_some, appK_eq, srun_nil, srun_cons, fin_ret, swpF_eq, sk_mv, sk_give, sk_eqN, get_mk, raw_slot, raw_lit, put_some, wb_nil, ev_mv, ev_give, ev_eqNs1, ro_nilS, List.map_cons, List.map_nil, List.getD_cons_zero, List.getD_cons_succ, List.length_cons, List.length_nil, List.replicate_succ, List.replicate_zero, List.cons_append, List.nil_append, Nat.reduceSub, true_and, Bool.false_eq_true, ↓reduceIte, Nat.zero_add]
    first | exact ⟨_, .same⟩ | exact ⟨_, .same, rfl⟩ | exact ⟨_, .same, rfl, rfl⟩
  · rw [cpI_not hn]
    obtain ⟨q1, q2, q3, q4, q6, q7⟩ := hv.facts
    simp (maxSteps := 2000000) (disch := first | omega | simp only [List.length_append, List.length_cons, List.length_nil, List.length_map] <;> omega) only [sf28, eqN_row hv hn, app_isv hv hn hl, q1, List.set_cons_zero, List.set_cons_succ, flg_nilS, flg_excl, swp_seq, swp_reg, swp_skip, swp_ret, swp_cond, seqK_n, condK_f, evK_some, appK_eq, srun_nil, srun_cons, fin_ret, swpF_eq, sk_mv, sk_give, sk_eqN, sk_bsl, sk_app, get_mk, raw_slot, raw_lit, put_some, wb_nil, wb_cons, ev_mv, ev_give, ev_bsl, ro_nilS, ro_excl, pubs, pubsFrom, List.map_cons, List.map_nil, List.getD_cons_zero, List.getD_cons_succ, List.getElem?_cons_zero, List.length_cons, List.length_nil, List.replicate_succ, List.replicate_zero, List.cons_append, List.nil_append, Nat.reduceSub, true_and, and_true, Bool.false_eq_true, Option.map_some, ↓reduceIte, List.all_nil, List.zip_nil_right, rep, fillV, List.flatten_nil, Nat.mul_one, Nat.zero_add]
    first | exact ⟨_, .same⟩ | exact ⟨_, .same, rfl⟩ | exact ⟨_, .same, rfl, rfl⟩
def O102 : Orc := O101.add 28 (StC fun st args r => ∃ (v : SV) (l : List Int), RowI st v l ∧ l.length ≤ 1048576 ∧ args = [v] ∧ r = cpI v l)
theorem s102 : Sound Tryd.prog O102 := s101.addS c28 (by kernel_rfl) (by
  rintro args r st ⟨v, l, hv, hl, rfl, rfl⟩
  exact ⟨by simp [sf28], g38 _ v l st hv hl⟩)
def samePc (p q : Pc) : Bool := p.path == q.path && p.has == q.has && p.size == q.size && p.dig == q.dig && (p.cl == q.cl && p.cr == q.cr) && decide (p.ch = q.ch)
def sameL : List Pc → List Pc → Bool
  | [], [] => true
  | p :: r, q :: s => samePc p q && sameL r s
  | _, _ => false
theorem sameL_len : ∀ {a b : List Pc}, sameL a b = true → a.length = b.length
  | [], [], _ => rfl
  | [], _ :: _, h => by simp [sameL] at h
  | _ :: _, [], h => by simp [sameL] at h
  | p :: r, q :: s, h => by
    simp only [sameL, Bool.and_eq_true] at h
    simp [sameL_len h.2]
theorem sameL_iff : ∀ {a b : List Pc}, a.length = b.length → (sameL a b = true ↔ ∀ (i : Nat) (p q : Pc), a[i]? = some p → b[i]? = some q → samePc p q = true)
  | [], [], _ => by simp [sameL]
  | [], _ :: _, h => by simp at h
  | _ :: _, [], h => by simp at h
  | p :: r, q :: s, h => by
    rw [sameL, Bool.and_eq_true, sameL_iff (by simpa using h)]
    constructor
    · rintro ⟨h1, h2⟩ i x y hx hy
      cases i with
      | zero => simp at hx hy; subst hx hy; exact h1
      | succ i => exact h2 i x y (by simpa using hx) (by simpa using hy)
    · intro h
      exact ⟨h 0 p q rfl rfl, fun i x y hx hy => h (i + 1) x y (by simpa using hx) (by simpa using hy)⟩
def sameH (a b : Mf) : Bool := a.au == b.au && a.ve == b.ve && a.pr == b.pr && a.ep == b.ep && a.ne == b.ne && a.se == b.se && a.sh == b.sh
def sameM (a b : Mf) : Bool := sameH a b && sameL a.ps b.ps
end Go.Sh.F
namespace Go.Sh.F
open Go.PathLaw Go.Proofs
theorem nbS {x y : List UInt8} {st : List Ob} : ev st (.bin .neq) [.str x, .str y] = some (.bool (!(x == y)), [], st) := by rw [bin_neqS]
theorem r25 {v : SV} {l : List Int} {w : SV} {k : List Int} {st : List Ob} (hv : RowI st v l) (hw : RowI st w k) (hl : l.length ≤ 1099511627776) : O102 15 [v, w] st (.bool (decide (l = k))) st := (by repeat first | exact Or.inr ⟨rfl, rfl, v, l, w, k, hv, hw, hl, rfl, rfl⟩ | refine Or.inl ?_)
set_option maxHeartbeats 16000000 in
set_option maxRecDepth 20000 in
theorem g18 (a b : Mf) (st : List Ob) (ha : a.ok st) (hb : b.ok st) (ho : okSt st) : swpF O102 sf13 [.agg a.cells, .agg b.cells] st (fun r st' => r = .bool (sameM a b) ∧ st' = st) := by
  obtain ⟨q1, q2, q3, q4, q6, q7⟩ := ha.1.facts
  obtain ⟨u1, u2, u3, u4, u6, u7⟩ := hb.1.facts
  have q5 := ha.1.lenL
  have u5 := hb.1.lenL
  have qv := ha.1.cv
  have uv := hb.1.cv
  have na := ha.2.1
  have i1 := ha.idp 2
  have i2 := hb.idp 2
  have o2 : okSt (st ++ [.cells [.int .i64 a.au, .int .i64 a.ve, .int .i64 a.pr, .int .i64 a.ep, .int .i64 a.ne, .int .i64 a.se, .int .i64 a.sh, a.pv], .cells [.int .i64 b.au, .int .i64 b.ve, .int .i64 b.pr, .int .i64 b.ep, .int .i64 b.ne, .int .i64 b.se, .int .i64 b.sh, b.pv]]) := by
    refine okSt_appL ho ?_
    simp only [List.all_cons, List.all_nil, Bool.and_true, obOk, idOks, idOk, List.length_cons, List.length_nil, Nat.zero_add, Bool.true_and]
    rw [i1, i2]; rfl
  simp only [Mf.cells]
  rcases bf (a.au == b.au) with h0 | h0
  · simp (maxSteps := 2000000) (disch := first | omega | simp only [List.length_append, List.length_cons, List.length_nil, List.length_map] <;> omega) only [sf13, h0, q6, q7, u6, u7, nbI, cv_agg, cell_int, getA0, getA, List.append_assoc, Nat.add_zero, List.set_cons_zero, List.set_cons_succ, flg_bool, exc_agg, swp_seq, swp_reg, swp_ret, swp_cond, seqK_n, seqK_r, condK_t, evK_some, appK_eq, grd_t, srun_nil, srun_cons, stepK_grd, fin_ret, swpF_eq, sk_mv, sk_give, sk_pick, sk_bin, sk_fld, sk_load, sk_box, get_mk, raw_slot, raw_lit, put_some, wb_nil, ev_mv, ev_give, ev_pick, ev_fld, bin_neq, ev_box, ev_ldP, ldP_some, ro_int, ro_bool, ro1_int, got_agg, List.map_cons, List.map_nil, List.getD_cons_zero, List.getD_cons_succ, List.getElem?_cons_zero, List.getElem?_cons_succ, List.length_cons, List.length_nil, List.replicate_succ, List.replicate_zero, List.cons_append, List.nil_append, Nat.reduceAdd, Nat.reduceSub, Bool.false_eq_true, Option.map_some, ↓reduceIte, List.all_cons, List.all_nil, Bool.and_self, Nat.zero_add, reduceCtorEq, Bool.not_false, List.length_append]
    first | exact ⟨_, trim1 ho rfl, by simp [sameM, sameH, h0], rfl⟩ | exact ⟨_, trim1 ho rfl, by simp [sameM, sameH, h0]⟩ | exact ⟨_, .same, by simp [sameM, sameH, h0], rfl⟩
  rcases bf (a.ve == b.ve) with h1 | h1
  · simp (maxSteps := 2000000) (disch := first | omega | simp only [List.length_append, List.length_cons, List.length_nil, List.length_map] <;> omega) only [sf13, h0, h1, q6, q7, u6, u7, nbI, cv_agg, cell_int, getA0, getA, List.append_assoc, Nat.add_zero, List.set_cons_zero, List.set_cons_succ, flg_bool, exc_agg, swp_seq, swp_reg, swp_ret, swp_cond, seqK_n, seqK_r, condK_t, evK_some, appK_eq, grd_t, srun_nil, srun_cons, stepK_grd, fin_ret, swpF_eq, sk_mv, sk_give, sk_pick, sk_bin, sk_fld, sk_load, sk_box, get_mk, raw_slot, raw_lit, put_some, wb_nil, ev_mv, ev_give, ev_pick, ev_fld, bin_neq, ev_box, ev_ldP, ldP_some, ro_int, ro_bool, ro1_int, got_agg, List.map_cons, List.map_nil, List.getD_cons_zero, List.getD_cons_succ, List.getElem?_cons_zero, List.getElem?_cons_succ, List.length_cons, List.length_nil, List.replicate_succ, List.replicate_zero, List.cons_append, List.nil_append, Nat.reduceAdd, Nat.reduceSub, Bool.false_eq_true, Option.map_some, ↓reduceIte, List.all_cons, List.all_nil, Bool.and_self, Nat.zero_add, reduceCtorEq, Bool.not_true, Bool.not_false, List.length_append]
    first | exact ⟨_, trim1 ho rfl, by simp [sameM, sameH, h1], rfl⟩ | exact ⟨_, trim1 ho rfl, by simp [sameM, sameH, h1]⟩ | exact ⟨_, .same, by simp [sameM, sameH, h1], rfl⟩
  rcases bf (a.pr == b.pr) with h2 | h2
  · simp (maxSteps := 2000000) (disch := first | omega | simp only [List.length_append, List.length_cons, List.length_nil, List.length_map] <;> omega) only [sf13, h0, h1, h2, q6, q7, u6, u7, nbI, cv_agg, cell_int, getA0, getA, List.append_assoc, Nat.add_zero, List.set_cons_zero, List.set_cons_succ, flg_bool, exc_agg, swp_seq, swp_reg, swp_ret, swp_cond, seqK_n, seqK_r, condK_t, evK_some, appK_eq, grd_t, srun_nil, srun_cons, stepK_grd, fin_ret, swpF_eq, sk_mv, sk_give, sk_pick, sk_bin, sk_fld, sk_load, sk_box, get_mk, raw_slot, raw_lit, put_some, wb_nil, ev_mv, ev_give, ev_pick, ev_fld, bin_neq, ev_box, ev_ldP, ldP_some, ro_int, ro_bool, ro1_int, got_agg, List.map_cons, List.map_nil, List.getD_cons_zero, List.getD_cons_succ, List.getElem?_cons_zero, List.getElem?_cons_succ, List.length_cons, List.length_nil, List.replicate_succ, List.replicate_zero, List.cons_append, List.nil_append, Nat.reduceAdd, Nat.reduceSub, Bool.false_eq_true, Option.map_some, ↓reduceIte, List.all_cons, List.all_nil, Bool.and_self, Nat.zero_add, reduceCtorEq, Bool.not_true, Bool.not_false, List.length_append]
    first | exact ⟨_, trim1 ho rfl, by simp [sameM, sameH, h2], rfl⟩ | exact ⟨_, trim1 ho rfl, by simp [sameM, sameH, h2]⟩ | exact ⟨_, .same, by simp [sameM, sameH, h2], rfl⟩
  rcases bf (a.ep == b.ep) with h3 | h3
  · simp (maxSteps := 2000000) (disch := first | omega | simp only [List.length_append, List.length_cons, List.length_nil, List.length_map] <;> omega) only [sf13, h0, h1, h2, h3, q6, q7, u6, u7, nbI, cv_agg, cell_int, getA0, getA, List.append_assoc, Nat.add_zero, List.set_cons_zero, List.set_cons_succ, flg_bool, exc_agg, swp_seq, swp_reg, swp_ret, swp_cond, seqK_n, seqK_r, condK_t, evK_some, appK_eq, grd_t, srun_nil, srun_cons, stepK_grd, fin_ret, swpF_eq, sk_mv, sk_give, sk_pick, sk_bin, sk_fld, sk_load, sk_box, get_mk, raw_slot, raw_lit, put_some, wb_nil, ev_mv, ev_give, ev_pick, ev_fld, bin_neq, ev_box, ev_ldP, ldP_some, ro_int, ro_bool, ro1_int, got_agg, List.map_cons, List.map_nil, List.getD_cons_zero, List.getD_cons_succ, List.getElem?_cons_zero, List.getElem?_cons_succ, List.length_cons, List.length_nil, List.replicate_succ, List.replicate_zero, List.cons_append, List.nil_append, Nat.reduceAdd, Nat.reduceSub, Bool.false_eq_true, Option.map_some, ↓reduceIte, List.all_cons, List.all_nil, Bool.and_self, Nat.zero_add, reduceCtorEq, Bool.not_true, Bool.not_false, List.length_append]
    first | exact ⟨_, trim1 ho rfl, by simp [sameM, sameH, h3], rfl⟩ | exact ⟨_, trim1 ho rfl, by simp [sameM, sameH, h3]⟩ | exact ⟨_, .same, by simp [sameM, sameH, h3], rfl⟩
  rcases bf (a.ne == b.ne) with h4 | h4
  · simp (maxSteps := 2000000) (disch := first | omega | simp only [List.length_append, List.length_cons, List.length_nil, List.length_map] <;> omega) only [sf13, h0, h1, h2, h3, h4, q6, q7, u6, u7, nbI, cv_agg, cell_int, getA0, getA, List.append_assoc, Nat.add_zero, List.set_cons_zero, List.set_cons_succ, flg_bool, exc_agg, swp_seq, swp_reg, swp_ret, swp_cond, seqK_n, seqK_r, condK_t, evK_some, appK_eq, grd_t, srun_nil, srun_cons, stepK_grd, fin_ret, swpF_eq, sk_mv, sk_give, sk_pick, sk_bin, sk_fld, sk_load, sk_box, get_mk, raw_slot, raw_lit, put_some, wb_nil, ev_mv, ev_give, ev_pick, ev_fld, bin_neq, ev_box, ev_ldP, ldP_some, ro_int, ro_bool, ro1_int, got_agg, List.map_cons, List.map_nil, List.getD_cons_zero, List.getD_cons_succ, List.getElem?_cons_zero, List.getElem?_cons_succ, List.length_cons, List.length_nil, List.replicate_succ, List.replicate_zero, List.cons_append, List.nil_append, Nat.reduceAdd, Nat.reduceSub, Bool.false_eq_true, Option.map_some, ↓reduceIte, List.all_cons, List.all_nil, Bool.and_self, Nat.zero_add, reduceCtorEq, Bool.not_true, Bool.not_false, List.length_append]
    first | exact ⟨_, trim1 ho rfl, by simp [sameM, sameH, h4], rfl⟩ | exact ⟨_, trim1 ho rfl, by simp [sameM, sameH, h4]⟩ | exact ⟨_, .same, by simp [sameM, sameH, h4], rfl⟩
  rcases bf (a.se == b.se) with h5 | h5
  · simp (maxSteps := 2000000) (disch := first | omega | simp only [List.length_append, List.length_cons, List.length_nil, List.length_map] <;> omega) only [sf13, h0, h1, h2, h3, h4, h5, q6, q7, u6, u7, nbI, cv_agg, cell_int, getA0, getA, List.append_assoc, Nat.add_zero, List.set_cons_zero, List.set_cons_succ, flg_bool, exc_agg, swp_seq, swp_reg, swp_ret, swp_cond, seqK_n, seqK_r, condK_t, evK_some, appK_eq, grd_t, srun_nil, srun_cons, stepK_grd, fin_ret, swpF_eq, sk_mv, sk_give, sk_pick, sk_bin, sk_fld, sk_load, sk_box, get_mk, raw_slot, raw_lit, put_some, wb_nil, ev_mv, ev_give, ev_pick, ev_fld, bin_neq, ev_box, ev_ldP, ldP_some, ro_int, ro_bool, ro1_int, got_agg, List.map_cons, List.map_nil, List.getD_cons_zero, List.getD_cons_succ, List.getElem?_cons_zero, List.getElem?_cons_succ, List.length_cons, List.length_nil, List.replicate_succ, List.replicate_zero, List.cons_append, List.nil_append, Nat.reduceAdd, Nat.reduceSub, Bool.false_eq_true, Option.map_some, ↓reduceIte, List.all_cons, List.all_nil, Bool.and_self, Nat.zero_add, reduceCtorEq, Bool.not_true, Bool.not_false, List.length_append]
    first | exact ⟨_, trim1 ho rfl, by simp [sameM, sameH, h5], rfl⟩ | exact ⟨_, trim1 ho rfl, by simp [sameM, sameH, h5]⟩ | exact ⟨_, .same, by simp [sameM, sameH, h5], rfl⟩
  rcases bf (a.sh == b.sh) with h6 | h6
  · simp (maxSteps := 2000000) (disch := first | omega | simp only [List.length_append, List.length_cons, List.length_nil, List.length_map] <;> omega) only [sf13, h0, h1, h2, h3, h4, h5, h6, q6, q7, u6, u7, nbI, cv_agg, cell_int, getA0, getA, List.append_assoc, Nat.add_zero, List.set_cons_zero, List.set_cons_succ, flg_bool, exc_agg, swp_seq, swp_reg, swp_ret, swp_cond, seqK_n, seqK_r, condK_t, evK_some, appK_eq, grd_t, srun_nil, srun_cons, stepK_grd, fin_ret, swpF_eq, sk_mv, sk_give, sk_pick, sk_bin, sk_fld, sk_load, sk_box, get_mk, raw_slot, raw_lit, put_some, wb_nil, ev_mv, ev_give, ev_pick, ev_fld, bin_neq, ev_box, ev_ldP, ldP_some, ro_int, ro_bool, ro1_int, got_agg, List.map_cons, List.map_nil, List.getD_cons_zero, List.getD_cons_succ, List.getElem?_cons_zero, List.getElem?_cons_succ, List.length_cons, List.length_nil, List.replicate_succ, List.replicate_zero, List.cons_append, List.nil_append, Nat.reduceAdd, Nat.reduceSub, Bool.false_eq_true, Option.map_some, ↓reduceIte, List.all_cons, List.all_nil, Bool.and_self, Nat.zero_add, reduceCtorEq, Bool.not_true, Bool.not_false, List.length_append]
    first | exact ⟨_, trim1 ho rfl, by simp [sameM, sameH, h6], rfl⟩ | exact ⟨_, trim1 ho rfl, by simp [sameM, sameH, h6]⟩ | exact ⟨_, .same, by simp [sameM, sameH, h6], rfl⟩
  have eh : sameH a b = true := by unfold sameH; simp only [h0, h1, h2, h3, h4, h5, h6, Bool.and_self]
  rcases bf ((a.ps.length : Int) == (b.ps.length : Int)) with h7 | h7
  · have e : sameL a.ps b.ps = false := by
      rw [Bool.eq_false_iff]; intro h
      rw [sameL_len h] at h7; simp at h7
    simp (maxSteps := 2000000) (disch := first | omega | simp only [List.length_append, List.length_cons, List.length_nil, List.length_map] <;> omega) only [sf13, h0, h1, h2, h3, h4, h5, h6, h7, q1, q5, q6, q7, u1, u5, u6, u7, nbI, cv_agg, cell_int, getA0, getA, List.append_assoc, Nat.add_zero, List.set_cons_zero, List.set_cons_succ, flg_bool, exc_agg, swp_seq, swp_reg, swp_ret, swp_cond, seqK_n, seqK_r, condK_t, evK_some, appK_eq, grd_t, srun_nil, srun_cons, stepK_grd, fin_ret, swpF_eq, sk_mv, sk_give, sk_pick, sk_bin, sk_fld, sk_load, sk_lenL, sk_box, get_mk, raw_slot, raw_lit, put_some, wb_nil, ev_mv, ev_give, ev_pick, ev_fld, bin_neq, ev_box, ev_ldP, ldP_some, ro_int, ro_bool, ro1_int, got_agg, List.map_cons, List.map_nil, List.getD_cons_zero, List.getD_cons_succ, List.getElem?_cons_zero, List.getElem?_cons_succ, List.length_cons, List.length_nil, List.replicate_succ, List.replicate_zero, List.cons_append, List.nil_append, Nat.reduceAdd, Nat.reduceSub, Bool.false_eq_true, Option.map_some, ↓reduceIte, List.all_cons, List.all_nil, Bool.and_self, Nat.zero_add, Bool.not_true, Bool.not_false, List.length_append]
    first | exact ⟨_, trim1 ho rfl, by simp [sameM, e], rfl⟩ | exact ⟨_, trim1 ho rfl, by simp [sameM, e]⟩ | exact ⟨_, .same, by simp [sameM, e], rfl⟩
  have hlk : a.ps.length = b.ps.length := by rw [beq_iff_eq] at h7; omega
  simp (maxSteps := 2000000) (disch := first | omega | simp only [List.length_append, List.length_cons, List.length_nil, List.length_map] <;> omega) only [sf13, h0, h1, h2, h3, h4, h5, h6, h7, q1, q5, q6, q7, u1, u5, u6, u7, nbI, cv_agg, cell_int, getA0, getA, List.append_assoc, Nat.add_zero, List.set_cons_zero, List.set_cons_succ, flg_bool, exc_int, exc_agg, swp_seq, swp_reg, swp_skip, swp_block, swp_cond, seqK_n, condK_f, evK_some, appK_eq, grd_t, srun_nil, srun_cons, stepK_grd, swpF_eq, sk_mv, sk_take, sk_give, sk_pick, sk_bin, sk_fld, sk_load, sk_lenL, sk_box, get_mk, raw_slot, raw_lit, put_some, wb_nil, ev_mv, ev_take, ev_give, ev_pick, ev_fld, bin_neq, ev_box, ev_ldP, ldP_some, ro_int, ro_bool, ro1_int, got_int, got_agg, List.map_cons, List.map_nil, List.getD_cons_zero, List.getD_cons_succ, List.getElem?_cons_zero, List.getElem?_cons_succ, List.length_cons, List.length_nil, List.replicate_succ, List.replicate_zero, List.cons_append, List.nil_append, Nat.reduceAdd, Nat.reduceSub, Bool.false_eq_true, Option.map_some, ↓reduceIte, List.all_cons, List.all_nil, Bool.and_self, Nat.zero_add, Bool.not_true, List.length_append]
  refine swp_lp (fun S => ∃ (i : Nat), i ≤ a.ps.length ∧ (∀ (j : Nat) (p q : Pc), j < i → a.ps[j]? = some p → b.ps[j]? = some q → samePc p q = true) ∧ S = ⟨[.undef, .undef, .ptr st.length 0, .ptr (st.length + 1) 0, .undef, .int .i64 i] ++ List.replicate 116 .undef, st ++ [.cells [.int .i64 a.au, .int .i64 a.ve, .int .i64 a.pr, .int .i64 a.ep, .int .i64 a.ne, .int .i64 a.se, .int .i64 a.sh, a.pv], .cells [.int .i64 b.au, .int .i64 b.ve, .int .i64 b.pr, .int .i64 b.ep, .int .i64 b.ne, .int .i64 b.se, .int .i64 b.sh, b.pv]]⟩)
      (fun S => match S.get 5 with | .int _ k => ((a.ps.length : Int) - k).toNat | _ => 0)
      ⟨[.undef, .undef, .ptr st.length 0, .ptr (st.length + 1) 0, .undef, .int .i64 0] ++ List.replicate 116 .undef, st ++ [.cells [.int .i64 a.au, .int .i64 a.ve, .int .i64 a.pr, .int .i64 a.ep, .int .i64 a.ne, .int .i64 a.se, .int .i64 a.sh, a.pv], .cells [.int .i64 b.au, .int .i64 b.ve, .int .i64 b.pr, .int .i64 b.ep, .int .i64 b.ne, .int .i64 b.se, .int .i64 b.sh, b.pv]]⟩ ?_ ⟨0, Nat.zero_le _, fun j p q h => by omega, rfl⟩ ?_
  · refine Forget.of ?_
    repeat first | exact fg_e | refine fg_d ?_ | refine fg_k rfl ?_
  rintro S ⟨i, hi, hall, rfl⟩
  by_cases him : i = a.ps.length
  · have hd : decide ((i : Int) < (a.ps.length : Int)) = false := by rw [decide_eq_false_iff_not]; omega
    have e : sameL a.ps b.ps = true := (sameL_iff hlk).2 fun j p q hp hq => hall j p q (by rw [him]; exact (List.getElem?_eq_some_iff.1 hp).1) hp hq
    simp (maxSteps := 2000000) (disch := first | omega | simp only [List.length_append, List.length_cons, List.length_nil, List.length_map] <;> omega) only [hd, q1, q5, getA0, List.set_cons_zero, List.set_cons_succ, lpK_e, flg_bool, swp_seq, swp_reg, swp_ret, swp_exit, swp_cond, seqK_n, seqK_e, blkK_e, condK_f, evK_some, appK_eq, srun_nil, srun_cons, fin_ret, sk_mv, sk_give, sk_bin, sk_fld, sk_load, sk_lenL, get_mk, raw_slot, raw_lit, put_some, wb_nil, ev_mv, ev_give, ev_fld, bin_lss, ev_ldP, ldP_some, ro_int, ro_bool, List.map_cons, List.map_nil, List.getD_cons_zero, List.getD_cons_succ, List.getElem?_cons_zero, List.getElem?_cons_succ, List.length_cons, List.length_nil, List.replicate_succ, List.replicate_zero, List.cons_append, List.nil_append, Nat.reduceAdd, Bool.false_eq_true, Option.map_some, ↓reduceIte, Nat.zero_add, List.length_append]
    first | exact ⟨_, trim1 ho rfl, by simp [sameM, eh, e], rfl⟩ | exact ⟨_, trim1 ho rfl, by simp [sameM, eh, e]⟩ | exact ⟨_, .same, by simp [sameM, eh, e], rfl⟩
  have hd : decide ((i : Int) < (a.ps.length : Int)) = true := by rw [decide_eq_true_eq]; omega
  have hia : i < a.ps.length := by omega
  have hib : i < b.ps.length := by omega
  have fin : ((a.ps.length : Int) - ((i + 1 : Nat) : Int)).toNat < ((a.ps.length : Int) - (i : Int)).toNat := by omega
  have z1 := ha.1.idxB hia .i64
  have z2 := fun x => ha.at' hia x
  have y1 := hb.1.idxB hib .i64
  have y2 := fun x => hb.at' hib x
  have hpa := List.getElem?_eq_getElem hia
  have hpb := List.getElem?_eq_getElem hib
  have oa := ha.2.2 _ (List.getElem_mem hia)
  have ob := hb.2.2 _ (List.getElem_mem hib)
  obtain ⟨p, ep⟩ : ∃ p, a.ps[i] = p := ⟨_, rfl⟩
  obtain ⟨q, eq⟩ : ∃ q, b.ps[i] = q := ⟨_, rfl⟩
  rw [ep] at z2 hpa oa
  rw [eq] at y2 hpb ob
  have m1 := ro1_pc oa
  have m2 := ro1_pc ob
  obtain ⟨w1, w2, w3, w4, w6, w7⟩ := oa.1.facts
  obtain ⟨x1, x2, x3, x4, x6, x7⟩ := ob.1.facts
  have sa := st_aggA (st := st) (l := [.cells [.int .i64 a.au, .int .i64 a.ve, .int .i64 a.pr, .int .i64 a.ep, .int .i64 a.ne, .int .i64 a.se, .int .i64 a.sh, a.pv], .cells [.int .i64 b.au, .int .i64 b.ve, .int .i64 b.pr, .int .i64 b.ep, .int .i64 b.ne, .int .i64 b.se, .int .i64 b.sh, b.pv], .cells [.str [], .bool false, .int .i64 0, .nilS, .int .i64 0, .int .i64 0, .int .i64 0]]) (i := 2) (n := 7) (b := true) (xs := p.cells) rfl m1 (cell_pc oa) rfl rfl
  have sb := st_aggA (st := st) (l := [.cells [.int .i64 a.au, .int .i64 a.ve, .int .i64 a.pr, .int .i64 a.ep, .int .i64 a.ne, .int .i64 a.se, .int .i64 a.sh, a.pv], .cells [.int .i64 b.au, .int .i64 b.ve, .int .i64 b.pr, .int .i64 b.ep, .int .i64 b.ne, .int .i64 b.se, .int .i64 b.sh, b.pv], .cells p.cells, .cells [.str [], .bool false, .int .i64 0, .nilS, .int .i64 0, .int .i64 0, .int .i64 0]]) (i := 3) (n := 7) (b := true) (xs := q.cells) rfl m2 (cell_pc ob) rfl rfl
  have no : samePc p q = false → sameL a.ps b.ps = false := by
    intro h
    rw [Bool.eq_false_iff]; intro h2
    rw [(sameL_iff hlk).1 h2 i p q hpa hpb] at h; cases h
  rcases bf (p.path == q.path) with k0 | k0
  · have e := no (by unfold samePc; simp only [k0, Bool.false_and])
    simp (maxSteps := 2000000) (disch := first | omega | simp only [List.length_append, List.length_cons, List.length_nil, List.length_map] <;> omega) only [k0, hd, z1, z2, y1, y2, sa, sb, pget0, nbS, q1, q5, u1, getA0, getA, List.append_assoc, Nat.add_zero, List.set_cons_zero, List.set_cons_succ, lpK_r, flg_bool, sk_idxB, swp_seq, swp_reg, swp_skip, swp_ret, swp_block, swp_cond, seqK_n, seqK_r, blkK_r, condK_t, evK_some, appK_eq, grd_t, srun_nil, srun_cons, stepK_grd, fin_ret, sk_mv, sk_give, sk_pick, sk_bin, sk_fld, sk_load, sk_store, sk_lenL, sk_alloc, get_mk, raw_slot, raw_lit, put_some, put_none, wb_nil, ev_mv, ev_give, ev_pick, ev_fld, bin_lss, ev_alloc, ev_ldP, ldP_some, ro_int, ro_bool, ro_str, List.map_cons, List.map_nil, List.getD_cons_zero, List.getD_cons_succ, List.getElem?_cons_zero, List.getElem?_cons_succ, List.length_cons, List.length_nil, List.replicate_succ, List.replicate_zero, List.cons_append, List.nil_append, Nat.reduceAdd, Bool.false_eq_true, Option.map_some, ↓reduceIte, Nat.zero_add, reduceCtorEq, Bool.not_false, List.length_append]
    first | exact ⟨_, trim1 ho rfl, by simp [sameM, e], rfl⟩ | exact ⟨_, trim1 ho rfl, by simp [sameM, e]⟩ | exact ⟨_, .same, by simp [sameM, e], rfl⟩
  rcases bf (p.has == q.has) with k1 | k1
  · have e := no (by unfold samePc; simp only [k0, k1, Bool.false_and, Bool.and_false])
    simp (maxSteps := 2000000) (disch := first | omega | simp only [List.length_append, List.length_cons, List.length_nil, List.length_map] <;> omega) only [k0, k1, hd, z1, z2, y1, y2, sa, sb, pget0, pget1, nbS, q1, q5, u1, getA0, getA, List.append_assoc, Nat.add_zero, List.set_cons_zero, List.set_cons_succ, lpK_r, flg_bool, sk_idxB, swp_seq, swp_reg, swp_skip, swp_ret, swp_block, swp_cond, seqK_n, seqK_r, blkK_r, condK_t, evK_some, appK_eq, grd_t, srun_nil, srun_cons, stepK_grd, fin_ret, sk_mv, sk_give, sk_pick, sk_bin, sk_eqB, sk_fld, sk_load, sk_store, sk_lenL, sk_alloc, get_mk, raw_slot, raw_lit, put_some, put_none, wb_nil, ev_mv, ev_give, ev_pick, ev_eqB, ev_fld, bin_lss, ev_alloc, ev_ldP, ldP_some, ro_int, ro_bool, ro_str, List.map_cons, List.map_nil, List.getD_cons_zero, List.getD_cons_succ, List.getElem?_cons_zero, List.getElem?_cons_succ, List.length_cons, List.length_nil, List.replicate_succ, List.replicate_zero, List.cons_append, List.nil_append, Nat.reduceAdd, Bool.false_eq_true, Option.map_some, ↓reduceIte, Nat.zero_add, reduceCtorEq, Bool.not_true, Bool.not_false, List.length_append]
    first | exact ⟨_, trim1 ho rfl, by simp [sameM, e], rfl⟩ | exact ⟨_, trim1 ho rfl, by simp [sameM, e]⟩ | exact ⟨_, .same, by simp [sameM, e], rfl⟩
  rcases bf (p.size == q.size) with k2 | k2
  · have e := no (by unfold samePc; simp only [k0, k1, k2, Bool.false_and, Bool.true_and, Bool.and_false])
    simp (maxSteps := 2000000) (disch := first | omega | simp only [List.length_append, List.length_cons, List.length_nil, List.length_map] <;> omega) only [k0, k1, k2, hd, z1, z2, y1, y2, sa, sb, pget0, pget1, pget2, nbS, q1, q5, u1, nbI, getA0, getA, List.append_assoc, Nat.add_zero, List.set_cons_zero, List.set_cons_succ, lpK_r, flg_bool, sk_idxB, swp_seq, swp_reg, swp_skip, swp_ret, swp_block, swp_cond, seqK_n, seqK_r, blkK_r, condK_t, evK_some, appK_eq, grd_t, srun_nil, srun_cons, stepK_grd, fin_ret, sk_mv, sk_give, sk_pick, sk_bin, sk_eqB, sk_fld, sk_load, sk_store, sk_lenL, sk_alloc, get_mk, raw_slot, raw_lit, put_some, put_none, wb_nil, ev_mv, ev_give, ev_pick, ev_eqB, ev_fld, bin_neq, bin_lss, ev_alloc, ev_ldP, ldP_some, ro_int, ro_bool, ro_str, List.map_cons, List.map_nil, List.getD_cons_zero, List.getD_cons_succ, List.getElem?_cons_zero, List.getElem?_cons_succ, List.length_cons, List.length_nil, List.replicate_succ, List.replicate_zero, List.cons_append, List.nil_append, Nat.reduceAdd, Bool.false_eq_true, Option.map_some, ↓reduceIte, Nat.zero_add, reduceCtorEq, Bool.not_true, Bool.not_false, List.length_append]
    first | exact ⟨_, trim1 ho rfl, by simp [sameM, e], rfl⟩ | exact ⟨_, trim1 ho rfl, by simp [sameM, e]⟩ | exact ⟨_, .same, by simp [sameM, e], rfl⟩
  rcases bf (p.dig == q.dig) with k3 | k3
  · have e := no (by unfold samePc; simp only [k0, k1, k2, k3, Bool.false_and, Bool.true_and, Bool.and_false])
    simp (maxSteps := 2000000) (disch := first | omega | simp only [List.length_append, List.length_cons, List.length_nil, List.length_map] <;> omega) only [k0, k1, k2, k3, hd, z1, z2, y1, y2, sa, sb, pget0, pget1, pget2, pget4, nbS, q1, q5, u1, nbI, getA0, getA, List.append_assoc, Nat.add_zero, List.set_cons_zero, List.set_cons_succ, lpK_r, flg_bool, sk_idxB, swp_seq, swp_reg, swp_skip, swp_ret, swp_block, swp_cond, seqK_n, seqK_r, blkK_r, condK_t, evK_some, appK_eq, grd_t, srun_nil, srun_cons, stepK_grd, fin_ret, sk_mv, sk_give, sk_pick, sk_bin, sk_eqB, sk_fld, sk_load, sk_store, sk_lenL, sk_alloc, get_mk, raw_slot, raw_lit, put_some, put_none, wb_nil, ev_mv, ev_give, ev_pick, ev_eqB, ev_fld, bin_neq, bin_lss, ev_alloc, ev_ldP, ldP_some, ro_int, ro_bool, ro_str, List.map_cons, List.map_nil, List.getD_cons_zero, List.getD_cons_succ, List.getElem?_cons_zero, List.getElem?_cons_succ, List.length_cons, List.length_nil, List.replicate_succ, List.replicate_zero, List.cons_append, List.nil_append, Nat.reduceAdd, Bool.false_eq_true, Option.map_some, ↓reduceIte, Nat.zero_add, reduceCtorEq, Bool.not_true, Bool.not_false, List.length_append]
    first | exact ⟨_, trim1 ho rfl, by simp [sameM, e], rfl⟩ | exact ⟨_, trim1 ho rfl, by simp [sameM, e]⟩ | exact ⟨_, .same, by simp [sameM, e], rfl⟩
  rcases bf (p.cl == q.cl && p.cr == q.cr) with k4 | k4
  · have e := no (by unfold samePc; simp only [k0, k1, k2, k3, k4, Bool.false_and, Bool.true_and, Bool.and_false])
    simp (maxSteps := 2000000) (disch := first | omega | simp only [List.length_append, List.length_cons, List.length_nil, List.length_map] <;> omega) only [k0, k1, k2, k3, k4, hd, z1, z2, y1, y2, sa, sb, plen, pget0, pget1, pget2, pget4, pclk, nbS, q1, q5, u1, nbI, eq_pair, getA0, getA, ev_ldA, List.append_assoc, Nat.add_zero, List.set_cons_zero, List.set_cons_succ, lpK_r, apO_some, flg_bool, sk_idxB, swp_seq, swp_reg, swp_skip, swp_ret, swp_block, swp_cond, seqK_n, seqK_r, blkK_r, condK_t, evK_some, appK_eq, grd_t, srun_nil, srun_cons, stepK_grd, fin_ret, sk_mv, sk_give, sk_pick, sk_bin, sk_eqB, sk_eqA, sk_fld, sk_load, sk_store, sk_lenL, sk_alloc, get_mk, raw_slot, raw_lit, put_some, put_none, wb_nil, ev_mv, ev_give, ev_pick, ev_eqB, ev_fld, bin_neq, bin_lss, ev_alloc, ev_ldP, ldP_some, ro_int, ro_bool, ro_str, ro_agg, ro1_int, List.map_cons, List.map_nil, List.getD_cons_zero, List.getD_cons_succ, List.getElem?_cons_zero, List.getElem?_cons_succ, List.length_cons, List.length_nil, List.replicate_succ, List.replicate_zero, List.cons_append, List.nil_append, Nat.reduceAdd, Bool.false_eq_true, Option.map_some, ↓reduceIte, Nat.zero_add, reduceCtorEq, Bool.not_true, Bool.not_false, List.length_append, Nat.le_refl]
    first | exact ⟨_, trim1 ho rfl, by simp [sameM, e], rfl⟩ | exact ⟨_, trim1 ho rfl, by simp [sameM, e]⟩ | exact ⟨_, .same, by simp [sameM, e], rfl⟩
  simp (maxSteps := 2000000) (disch := first | omega | simp only [List.length_append, List.length_cons, List.length_nil, List.length_map] <;> omega) only [k0, k1, k2, k3, k4, hd, z1, z2, y1, y2, sa, sb, plen, pget0, pget1, pget2, pget3, pget4, pclk, nbS, w1, w2, w3, x1, x2, x3, q1, q5, u1, nbI, eq_pair, getA0, getA, ev_ldA, List.append_assoc, Nat.add_zero, List.set_cons_zero, List.set_cons_succ, apO_some, sk_idxB, swp_seq, swp_reg, swp_skip, swp_block, swp_cond, seqK_n, condK_t, evK_some, appK_eq, grd_t, srun_nil, srun_cons, stepK_call, stepK_grd, sk_mv, sk_pick, sk_bin, sk_eqB, sk_eqA, sk_fld, sk_load, sk_store, sk_lenL, sk_alloc, get_mk, raw_slot, raw_lit, put_some, put_none, wb_nil, ev_mv, ev_pick, ev_eqB, ev_fld, bin_neq, bin_lss, ev_alloc, ev_ldP, ldP_some, ro_int, ro_bool, ro_str, ro_agg, ro1_int, pubs, pubsFrom, List.map_cons, List.map_nil, List.getD_cons_zero, List.getD_cons_succ, List.getElem?_cons_zero, List.getElem?_cons_succ, List.length_cons, List.length_nil, List.replicate_succ, List.replicate_zero, List.cons_append, List.nil_append, Nat.reduceAdd, Bool.false_eq_true, Option.map_some, ↓reduceIte, Nat.zero_add, Bool.not_true, List.length_append, Nat.le_refl]
  refine callK_intro (r25 (RowAt.mono oa.1 _) (RowAt.mono ob.1 _) (by have := oa.2.1; omega)) ?_
  rcases bf (decide (p.ch = q.ch)) with k5 | k5
  · have e := no (by unfold samePc; simp only [k0, k1, k2, k3, k4, k5, Bool.true_and, Bool.and_false])
    rw [k5]
    simp (maxSteps := 2000000) (disch := first | omega | simp only [List.length_append, List.length_cons, List.length_nil, List.length_map] <;> omega) only [List.set_cons_zero, List.set_cons_succ, lpK_r, flg_bool, swp_seq, swp_reg, swp_ret, swp_cond, seqK_n, seqK_r, blkK_r, condK_t, evK_some, appK_eq, appC_eq, grd_t, srun_nil, srun_cons, stepK_grd, fin_ret, sk_give, sk_pick, sk_un, get_mk, raw_slot, raw_lit, put_some, wb_nil, ev_give, ev_pick, ev_not, ro_bool, List.map_cons, List.map_nil, List.getD_cons_zero, List.getD_cons_succ, Bool.false_eq_true, ↓reduceIte, Bool.not_false]
    first | exact ⟨_, trim1 ho rfl, by simp [sameM, e], rfl⟩ | exact ⟨_, trim1 ho rfl, by simp [sameM, e]⟩ | exact ⟨_, .same, by simp [sameM, e], rfl⟩
  have e : samePc p q = true := by unfold samePc; simp only [k0, k1, k2, k3, k4, k5, Bool.and_self]
  rw [k5]
  simp (maxSteps := 2000000) (disch := first | omega | simp only [List.length_append, List.length_cons, List.length_nil, List.length_map] <;> omega) only [List.set_cons_zero, List.set_cons_succ, lpK_n, flg_int, swp_reg, swp_skip, swp_cond, seqK_n, blkK_n, condK_f, evK_some, appK_eq, appC_eq, grd_t, srun_nil, srun_cons, stepK_grd, sk_mv, sk_give, sk_pick, sk_bin, sk_un, get_mk, raw_slot, raw_lit, put_some, wb_nil, ev_mv, ev_give, ev_pick, ev_not, bin_add, ro_int, ro_bool, List.map_cons, List.map_nil, List.getD_cons_zero, List.getD_cons_succ, Bool.false_eq_true, ↓reduceIte, Bool.not_true, wrap_i64]
  refine ⟨_, Forget.cutA (l := [_, _]) (x := [_, _]) ?_ (by simp) ?_ o2, ⟨i + 1, by omega, fun j p' q' hj hp' hq' => ?_, rfl⟩, by exact fin⟩
  · repeat first | exact fg_e | refine fg_d ?_ | refine fg_k rfl ?_
  · simp [idOks, idOk]
  · rcases Nat.lt_succ_iff_lt_or_eq.1 hj with h | rfl
    · exact hall j p' q' h hp' hq'
    · rw [hpa] at hp'; rw [hpb] at hq'
      obtain rfl := Option.some.inj hp'
      obtain rfl := Option.some.inj hq'
      exact e
def O103 : Orc := O102.add 13 (StC fun st args r => ∃ a b : Mf, a.ok st ∧ b.ok st ∧ okSt st ∧ args = [.agg a.cells, .agg b.cells] ∧ r = .bool (sameM a b))
theorem s103 : Sound Tryd.prog O103 := s102.addS c13 (by kernel_rfl) (by
  rintro args r st ⟨a, b, ha, hb, ho, rfl, rfl⟩
  exact ⟨by simp [sf13], g18 a b st ha hb ho⟩)
end Go.Sh.F
namespace Go.Sh.F
open Go.PathLaw Go.Proofs
def Pc.pl (p : Pc) : Pc := { p with cv := .nilS }
def Mf.pl (m : Mf) : Mf := { m with pv := .nilS, ps := m.ps.map Pc.pl }
theorem rows_pl : ∀ l : List Pc, rows (l.map Pc.pl) = rows l
  | [] => rfl
  | [p] => rfl
  | p :: q :: r => by
    have := rows_pl (q :: r)
    simp only [List.map_cons] at this ⊢
    rw [rows, rows, this]; rfl
theorem rightM_pl (m : Mf) : rightM m.pl = rightM m := by
  unfold rightM Mf.pl
  simp only [rows_pl, List.length_map]
  rfl
theorem samePc_pl (p q : Pc) : samePc p.pl q.pl = samePc p q := rfl
theorem sameL_pl : ∀ a b : List Pc, sameL (a.map Pc.pl) (b.map Pc.pl) = sameL a b
  | [], [] => rfl
  | [], _ :: _ => rfl
  | _ :: _, [] => rfl
  | p :: r, q :: s => by simp only [List.map_cons, sameL, sameL_pl r s, samePc_pl]
theorem sameM_pl (a b : Mf) : sameM a.pl b.pl = sameM a b := by
  unfold sameM Mf.pl
  simp only [sameL_pl]; rfl
theorem samePc_self (p : Pc) : samePc p p = true := by simp [samePc]
theorem sameL_self : ∀ a : List Pc, sameL a a = true
  | [] => rfl
  | p :: r => by rw [sameL, samePc_self, sameL_self r]; rfl
theorem sameM_self (a : Mf) : sameM a a = true := by simp [sameM, sameH, sameL_self]
theorem samePc_eq {p q : Pc} (h : samePc p q = true) : p.pl = q.pl := by
  simp only [samePc, Bool.and_eq_true, beq_iff_eq, decide_eq_true_eq] at h
  obtain ⟨⟨⟨⟨⟨h1, h2⟩, h3⟩, h4⟩, h5, h6⟩, h7⟩ := h
  simp only [Pc.pl, h1, h2, h3, h4, h5, h6, h7]
theorem sameL_eq : ∀ {a b : List Pc}, sameL a b = true → a.map Pc.pl = b.map Pc.pl
  | [], [], _ => rfl
  | [], _ :: _, h => by simp [sameL] at h
  | _ :: _, [], h => by simp [sameL] at h
  | p :: r, q :: s, h => by
    rw [sameL, Bool.and_eq_true] at h
    rw [List.map_cons, List.map_cons, samePc_eq h.1, sameL_eq h.2]
theorem sameM_iff (a b : Mf) : sameM a b = true ↔ a.pl = b.pl := by
  constructor
  · intro h
    rw [sameM, Bool.and_eq_true] at h
    obtain ⟨h1, h2⟩ := h
    simp only [sameH, Bool.and_eq_true, beq_iff_eq] at h1
    obtain ⟨⟨⟨⟨⟨⟨k1, k2⟩, k3⟩, k4⟩, k5⟩, k6⟩, k7⟩ := h1
    simp only [Mf.pl, sameL_eq h2, k1, k2, k3, k4, k5, k6, k7]
  · intro h
    rw [← sameM_pl, h, sameM_self]
def cpX (p : Pc) : List Ob := match p.cv with | .nilS => [.cells p.cells] | _ => [.cells p.cells, .cells (isv p.ch)]
def cpPc (id : Nat) (p : Pc) : Pc := match p.cv with | .nilS => p | _ => { p with cv := .slo (id + 1) 0 p.ch.length }
theorem cpX_nil {p : Pc} (h : p.cv = .nilS) : cpX p = [.cells p.cells] := by unfold cpX; rw [h]
theorem cpX_not {p : Pc} (h : p.cv ≠ .nilS) : cpX p = [.cells p.cells, .cells (isv p.ch)] := by unfold cpX; cases hc : p.cv <;> first | rfl | exact absurd hc h
theorem cpPc_nil {p : Pc} (h : p.cv = .nilS) (id : Nat) : cpPc id p = p := by unfold cpPc; rw [h]
theorem cpPc_not {p : Pc} (h : p.cv ≠ .nilS) (id : Nat) : cpPc id p = { p with cv := .slo (id + 1) 0 p.ch.length } := by unfold cpPc; cases hc : p.cv <;> first | rfl | exact absurd hc h
theorem cpPc_pl (id : Nat) (p : Pc) : (cpPc id p).pl = p.pl := by
  rcases nil_or p.cv with h | h
  · rw [cpPc_nil h]
  · rw [cpPc_not h]; rfl
def cpR : Nat → List Pc → List Ob × List Pc
  | _, [] => ([], [])
  | id, p :: r => (cpX p ++ (cpR (id + (cpX p).length) r).1, cpPc id p :: (cpR (id + (cpX p).length) r).2)
theorem cpR_snoc : ∀ (l : List Pc) (id : Nat) (p : Pc), cpR id (l ++ [p]) = ((cpR id l).1 ++ cpX p, (cpR id l).2 ++ [cpPc (id + (cpR id l).1.length) p])
  | [], id, p => by simp [cpR]
  | q :: r, id, p => by
    rw [List.cons_append, cpR, cpR_snoc r]
    simp only [cpR, List.append_assoc, List.cons_append, List.length_append, Nat.add_assoc]
theorem cpR_len : ∀ (l : List Pc) (id : Nat), (cpR id l).2.length = l.length
  | [], _ => rfl
  | p :: r, id => by rw [cpR, List.length_cons, List.length_cons, cpR_len r]
theorem cpR_pl : ∀ (l : List Pc) (id : Nat), (cpR id l).2.map Pc.pl = l.map Pc.pl
  | [], _ => rfl
  | p :: r, id => by rw [cpR, List.map_cons, List.map_cons, cpPc_pl, cpR_pl r]
theorem cpPc_ok {base : List Ob} {p : Pc} (h : p.ok base) : (cpPc base.length p).ok (base ++ cpX p) := by
  rcases nil_or p.cv with hn | hn
  · rw [cpPc_nil hn]; exact h.mono _
  · rw [cpPc_not hn, cpX_not hn]
    refine ⟨⟨by rw [isv_len, Nat.mul_one], .inr (.inr ⟨base.length + 1, 0, isv p.ch, rfl, ?_, ?_, ?_⟩)⟩, h.2⟩
    · rw [getA]; rfl
    · rw [isv_len]; simp
    · rw [List.drop_zero, List.take_of_length_le (by rw [isv_len]; simp)]
theorem cpR_ok : ∀ (l : List Pc) (base : List Ob), (∀ p ∈ l, p.ok base) → ∀ q ∈ (cpR base.length l).2, q.ok (base ++ (cpR base.length l).1)
  | [], _, _, q, hq => by simp [cpR] at hq
  | p :: r, base, h, q, hq => by
    have ih := cpR_ok r (base ++ cpX p) (fun z hz => (h z (List.mem_cons_of_mem _ hz)).mono _)
    rw [List.length_append] at ih
    simp only [cpR] at hq ⊢
    rw [← List.append_assoc]
    rcases List.mem_cons.1 hq with rfl | hq
    · exact (cpPc_ok (h p List.mem_cons_self)).mono _
    · exact ih q hq
theorem cpX_obs {p : Pc} {N : Nat} (h : idOks N p.cells = true) : (cpX p).all (obOk N) = true := by
  rcases nil_or p.cv with hn | hn
  · rw [cpX_nil hn]; simp only [List.all_cons, List.all_nil, obOk, h, Bool.and_true]
  · rw [cpX_not hn]; simp only [List.all_cons, List.all_nil, obOk, h, idOks_isv, Bool.and_true]
theorem cpR_obs : ∀ (l : List Pc) (id N : Nat), (∀ p ∈ l, idOks N p.cells = true) → (cpR id l).1.all (obOk N) = true
  | [], _, _, _ => rfl
  | p :: r, id, N, h => by
    rw [cpR, List.all_append, cpX_obs (h p List.mem_cons_self), cpR_obs r _ N (fun q hq => h q (List.mem_cons_of_mem _ hq))]; rfl
def cpA (st : List Ob) (m : Mf) : Mf := { m with pv := .slo (st.length + 2) 0 m.ps.length }
def cpM (st : List Ob) (m : Mf) : Mf := match m.pv with | .nilS => m | _ => { cpA st m with ps := (cpR (st.length + 3) m.ps).2 }
def cpB (st : List Ob) (m : Mf) (b : List SV) (i : Nat) : List Ob := [.cells (cpA st m).cells, .cells b, .cells (((cpR (st.length + 3) (m.ps.take i)).2 ++ m.ps.drop i).flatMap Pc.cells)] ++ (cpR (st.length + 3) (m.ps.take i)).1
def cpS (st : List Ob) (m : Mf) : List Ob := match m.pv with | .nilS => st | _ => st ++ cpB st m (cpA st m).cells m.ps.length
theorem cpM_nil {st : List Ob} {m : Mf} (h : m.pv = .nilS) : cpM st m = m := by unfold cpM; rw [h]
theorem cpS_nil {st : List Ob} {m : Mf} (h : m.pv = .nilS) : cpS st m = st := by unfold cpS; rw [h]
theorem cpM_not {st : List Ob} {m : Mf} (h : m.pv ≠ .nilS) : cpM st m = { cpA st m with ps := (cpR (st.length + 3) m.ps).2 } := by unfold cpM; cases hc : m.pv <;> first | rfl | exact absurd hc h
theorem cpS_not {st : List Ob} {m : Mf} (h : m.pv ≠ .nilS) : cpS st m = st ++ cpB st m (cpA st m).cells m.ps.length := by unfold cpS; cases hc : m.pv <;> first | rfl | exact absurd hc h
theorem cpB_all (st : List Ob) (m : Mf) (b : List SV) : cpB st m b m.ps.length = [.cells (cpA st m).cells, .cells b, .cells ((cpR (st.length + 3) m.ps).2.flatMap Pc.cells)] ++ (cpR (st.length + 3) m.ps).1 := by
  unfold cpB; rw [List.take_length, List.drop_length, List.append_nil]
theorem cpM_ok {st : List Ob} {m : Mf} (h : m.ok st) : (cpM st m).ok (cpS st m) := by
  rcases nil_or m.pv with hn | hn
  · rw [cpM_nil hn, cpS_nil hn]; exact h
  · rw [cpM_not hn, cpS_not hn, cpB_all]
    have hl := cpR_len m.ps (st.length + 3)
    refine ⟨⟨?_, .inr (.inr ⟨st.length + 2, 0, (cpR (st.length + 3) m.ps).2.flatMap Pc.cells, ?_, ?_, ?_, ?_⟩)⟩, ?_, ?_⟩
    · exact flat_len (pc_len _)
    · show SV.slo _ _ _ = _; rw [hl]
    · rw [getA]; rfl
    · rw [Nat.zero_add, flat_len (pc_len _)]; exact Nat.le_refl _
    · rw [List.drop_zero, List.take_of_length_le (by rw [flat_len (pc_len _)]; exact Nat.le_refl _)]
    · show (cpR _ _).2.length ≤ _; rw [hl]; exact h.2.1
    · intro q hq
      have := cpR_ok m.ps (st ++ [.cells (cpA st m).cells, .cells (cpA st m).cells, .cells ((cpR (st.length + 3) m.ps).2.flatMap Pc.cells)]) (fun p hp => (h.2.2 p hp).mono _) q
      rw [List.length_append, List.append_assoc] at this
      exact this hq
theorem cpS_app (st : List Ob) (m : Mf) : ∃ x, cpS st m = st ++ x := by
  rcases nil_or m.pv with hn | hn
  · exact ⟨[], by rw [cpS_nil hn, List.append_nil]⟩
  · exact ⟨_, cpS_not hn⟩
theorem cpS_okSt {st : List Ob} {m : Mf} (h : m.ok st) (ho : okSt st) : okSt (cpS st m) := by
  have hM := cpM_ok h
  rcases nil_or m.pv with hn | hn
  · rw [cpS_nil hn]; exact ho
  · have i1 := idOks_mf hM
    have i2 := idOks_flat hM.2.2
    have i3 : ∀ p ∈ m.ps, idOks (cpS st m).length p.cells = true := by
      intro p hp
      obtain ⟨x, hx⟩ := cpS_app st m
      rw [hx]; exact idOks_pc ((h.2.2 p hp).mono x)
    rw [cpM_not hn] at i1 i2
    rw [cpS_not hn, cpB_all] at i1 i2 i3 ⊢
    refine okSt_appL ho ?_
    rw [List.length_append] at i1 i2 i3
    rw [List.all_append, cpR_obs _ _ _ i3, Bool.and_true]
    simp only [List.all_cons, List.all_nil, obOk, Bool.and_true]
    rw [i2, Bool.and_true]
    change idOks _ (cpA st m).cells = true at i1
    rw [i1]; rfl
theorem cpM_pl (st : List Ob) (m : Mf) : (cpM st m).pl = m.pl := by
  rcases nil_or m.pv with hn | hn
  · rw [cpM_nil hn]
  · rw [cpM_not hn]
    unfold Mf.pl
    simp only [cpR_pl]; rfl
end Go.Sh.F
namespace Go.Sh.F
open Go.PathLaw Go.Proofs
def cpV (v : SV) (l : List Pc) : SV := match v with | .nilS => .nilS | _ => .sl (l.flatMap Pc.cells) l.length (.excl 7)
theorem cpV_not {v : SV} {l : List Pc} (h : v ≠ .nilS) : cpV v l = .sl (l.flatMap Pc.cells) l.length (.excl 7) := by cases v <;> first | rfl | exact absurd rfl h
theorem ro_flat {st : List Ob} : ∀ {l : List Pc}, (∀ p ∈ l, p.ok st) → (l.flatMap Pc.cells).map ro = l.flatMap Pc.cells
  | [], _ => rfl
  | p :: r, h => by
    have := (h p List.mem_cons_self).1.facts.1
    rw [List.flatMap_cons, List.map_append, ro_flat (fun q hq => h q (List.mem_cons_of_mem _ hq))]
    congr 1
    simp only [Pc.cells, List.map_cons, List.map_nil, this]; rfl
theorem app_pcs {st : List Ob} {m : Mf} (h : m.ok st) (hn : m.pv ≠ .nilS) {z : List SV} : ev st (.app 7 80 z) [.sl [] 0 (.excl 7), m.pv] = some (.sl (m.ps.flatMap Pc.cells) m.ps.length (.excl 7), [(0, .undef)], st) := by
  have hb := h.2.1
  have hr := ro_flat h.2.2
  obtain ⟨⟨h1, h2⟩, _, _⟩ := h
  obtain ⟨e, _⟩ | ⟨fl, h3, e⟩ | ⟨id, off, c, e, h3, h4, h5⟩ := h2
  · exact absurd e hn
  · rw [e, app_excl rfl h1 (by omega) (by omega), List.nil_append, Nat.zero_add]
  · rw [e, ev_appO, h3, apO_some, if_pos h4, h5, hr, app_excl rfl h1 (by omega) (by omega), List.nil_append, Nat.zero_add]
theorem g37 (O : Orc) (m : Mf) (st : List Ob) (h : m.ok st) : swpF O sf27 [m.pv] st (fun r st' => r = cpV m.pv m.ps ∧ st' = st) := by
  rcases nil_or m.pv with hn | hn
  · rw [hn]
    show swpF O sf27 [.nilS] st (fun r st' => r = .nilS ∧ st' = st)
    simp (maxSteps := 2000000) (disch := first | omega | simp only [List.length_append, List.length_cons, List.length_nil, List.length_map] <;> omega) only [sf27, List.set_cons_zero, List.set_cons_succ, flg_nilS, swp_seq, swp_reg, swp_ret, swp_cond, seqK_n, seqK_r, condK_t, evK_some, appK_eq, srun_nil, srun_cons, fin_ret, swpF_eq, sk_mv, sk_give, sk_eqN, get_mk, raw_slot, raw_lit, put_some, wb_nil, ev_mv, ev_give, ev_eqNs1, ro_nilS, List.map_cons, List.map_nil, List.getD_cons_zero, List.getD_cons_succ, List.length_cons, List.length_nil, List.replicate_succ, List.replicate_zero, List.cons_append, List.nil_append, Nat.reduceSub, true_and, Bool.false_eq_true, ↓reduceIte, Nat.zero_add]
    first | exact ⟨_, .same⟩ | exact ⟨_, .same, rfl⟩ | exact ⟨_, .same, rfl, rfl⟩
  · rw [cpV_not hn]
    obtain ⟨q1, q2, q3, q4, q6, q7⟩ := h.1.facts
    simp (maxSteps := 2000000) (disch := first | omega | simp only [List.length_append, List.length_cons, List.length_nil, List.length_map] <;> omega) only [sf27, eqN_row h.1 hn, app_pcs h hn, q1, List.set_cons_zero, List.set_cons_succ, flg_nilS, flg_excl, swp_seq, swp_reg, swp_skip, swp_ret, swp_cond, seqK_n, condK_f, evK_some, appK_eq, srun_nil, srun_cons, fin_ret, swpF_eq, sk_mv, sk_give, sk_eqN, sk_bsl, sk_app, get_mk, raw_slot, raw_lit, put_some, wb_nil, wb_cons, ev_mv, ev_give, ev_bsl, ro_nilS, ro_excl, pubs, pubsFrom, List.map_cons, List.map_nil, List.getD_cons_zero, List.getD_cons_succ, List.getElem?_cons_zero, List.length_cons, List.length_nil, List.replicate_succ, List.replicate_zero, List.cons_append, List.nil_append, Nat.reduceSub, true_and, and_true, Bool.false_eq_true, Option.map_some, ↓reduceIte, List.all_nil, List.zip_nil_right, rep, fillV, List.flatten_nil, Nat.zero_add]
    first | exact ⟨_, .same⟩ | exact ⟨_, .same, rfl⟩ | exact ⟨_, .same, rfl, rfl⟩
def O104 : Orc := O103.add 27 (StC fun st args r => ∃ m : Mf, m.ok st ∧ args = [m.pv] ∧ r = cpV m.pv m.ps)
theorem s104 : Sound Tryd.prog O104 := s103.addS c27 (by kernel_rfl) (by
  rintro args r st ⟨m, h, rfl, rfl⟩
  exact ⟨by simp [sf27], g37 _ m st h⟩)
theorem r38 {v : SV} {l : List Int} {st : List Ob} (hv : RowI st v l) (hl : l.length ≤ 1048576) : O104 28 [v] st (cpI v l) st := (by repeat first | exact Or.inr ⟨rfl, rfl, v, l, hv, hl, rfl, rfl⟩ | refine Or.inl ?_)
theorem r37 {m : Mf} {st : List Ob} (h : m.ok st) : O104 27 [m.pv] st (cpV m.pv m.ps) st := (by repeat first | exact Or.inr ⟨rfl, rfl, m, h, rfl, rfl⟩ | refine Or.inl ?_)
theorem cpB_zero (st : List Ob) (m : Mf) (b : List SV) : cpB st m b 0 = [.cells (cpA st m).cells, .cells b, .cells (m.ps.flatMap Pc.cells)] := by
  unfold cpB; simp [cpR]
theorem set_mid {a b c : List SV} {n k : Nat} {v : SV} (h : a.length = n) (hk : k < b.length) : (a ++ (b ++ c)).set (n + k) v = a ++ (b.set k v ++ c) := by
  subst h
  rw [List.set_append_right _ _ (by omega), Nat.add_sub_cancel_left, List.set_append_left _ _ hk]
theorem set_end' {α : Type} {X : List α} {a b : α} : (X ++ [a]).set X.length b = X ++ [b] := by simp
theorem take_snoc {l : List Pc} {i : Nat} (hi : i < l.length) : l.take (i + 1) = l.take i ++ [l[i]] := (List.take_append_getElem hi).symm
theorem cpB_succ {st : List Ob} {m : Mf} {b : List SV} {i : Nat} (hi : i < m.ps.length) {X : List Ob} {L : List Pc} (e : cpR (st.length + 3) (m.ps.take i) = (X, L)) :
    cpB st m b (i + 1) = .cells (cpA st m).cells :: .cells b :: .cells ((L ++ (cpPc (st.length + 3 + X.length) m.ps[i] :: m.ps.drop (i + 1))).flatMap Pc.cells) :: (X ++ cpX m.ps[i]) := by
  unfold cpB
  rw [take_snoc hi, cpR_snoc, e]
  simp only [List.append_assoc, List.cons_append, List.nil_append]
set_option maxHeartbeats 16000000 in
set_option maxRecDepth 20000 in
theorem g24 (m : Mf) (st : List Ob) (h : m.ok st) (hc : ∀ p ∈ m.ps, p.ch.length ≤ 1048576) (ho : okSt st) : swpF O104 sf12 [.agg m.cells] st (fun r st' => r = .agg (cpM st m).cells ∧ st' = cpS st m) := by
  have hk := r37 (h.mono [.cells m.cells, .cells [.int .i64 0, .int .i64 0, .int .i64 0, .int .i64 0, .int .i64 0, .int .i64 0, .int .i64 0, .nilS]])
  obtain ⟨q1, q2, q3, q4, q6, q7⟩ := h.1.facts
  have qv := h.1.cv
  rcases nil_or m.pv with hn | hn
  · obtain ⟨au, ve, pr, ep, ne, se, sh, pv, ps⟩ := m
    obtain rfl : pv = .nilS := hn
    rw [cpM_nil rfl, cpS_nil rfl]
    simp only [Mf.cells] at hk ⊢
    have sZ := st_aggA (st := st) (l := [.cells [.int .i64 au, .int .i64 ve, .int .i64 pr, .int .i64 ep, .int .i64 ne, .int .i64 se, .int .i64 sh, .nilS], .cells [.int .i64 0, .int .i64 0, .int .i64 0, .int .i64 0, .int .i64 0, .int .i64 0, .int .i64 0, .nilS]]) (i := 1) (n := 8) (b := true) (xs := [.int .i64 au, .int .i64 ve, .int .i64 pr, .int .i64 ep, .int .i64 ne, .int .i64 se, .int .i64 sh, .nilS]) rfl rfl rfl rfl rfl
    simp (maxSteps := 2000000) (disch := first | omega | simp only [List.length_append, List.length_cons, List.length_nil, List.length_map] <;> omega) only [sf12, cv_agg, cell_int, cell_nilS, getA0, List.append_assoc, List.set_cons_zero, List.set_cons_succ, exc_nilS, exc_agg, swp_seq, swp_reg, seqK_n, evK_some, appK_eq, srun_nil, srun_cons, stepK_call, swpF_eq, sk_fld, sk_load, sk_box, sk_alloc, get_mk, raw_slot, put_some, wb_nil, ev_fld, ev_box, ev_alloc, ev_ldP, ldP_some, ro_nilS, ro1_int, ro1_nilS, got_nilS, got_agg, pubs, pubsFrom, List.map_cons, List.map_nil, List.getD_cons_zero, List.getD_cons_succ, List.getElem?_cons_zero, List.getElem?_cons_succ, List.length_cons, List.length_nil, List.replicate_succ, List.replicate_zero, List.cons_append, List.nil_append, Nat.reduceSub, Bool.false_eq_true, Option.map_some, ↓reduceIte, List.all_cons, List.all_nil, Bool.and_self, Nat.zero_add, List.length_append]
    refine callK_intro hk ?_
    simp (maxSteps := 2000000) (disch := first | omega | simp only [List.length_append, List.length_cons, List.length_nil, List.length_map] <;> omega) only [cpV, getA0, setA0, List.set_cons_zero, List.set_cons_succ, sk_storeO, ev_storeO_nil, swp_seq, swp_reg, swp_block, seqK_n, evK_some, appK_eq, appC_eq, srun_nil, srun_cons, sk_mv, sk_fld, sk_load, sk_lenL, get_mk, raw_slot, raw_lit, put_some, put_none, wb_nil, ev_mv, ev_fld, ev_lenN, ev_ldP, ldP_some, stP_some, ro_int, ro_nilS, List.map_cons, List.map_nil, List.getD_cons_zero, List.getD_cons_succ, List.getElem?_cons_zero, List.getElem?_cons_succ, List.length_cons, List.length_nil, Nat.reduceAdd, Nat.reduceLT, Option.map_some, ↓reduceIte, Nat.zero_add]
    refine swp_lp (fun S => S = ⟨[.undef, .ptr st.length 0, .ptr (st.length + 1) 0, .undef, .undef, .undef, .undef, .undef, .undef, .undef, .nilS, .int .i64 0, .int .i64 0] ++ List.replicate 14 .undef, st ++ [.cells [.int .i64 au, .int .i64 ve, .int .i64 pr, .int .i64 ep, .int .i64 ne, .int .i64 se, .int .i64 sh, .nilS], .cells [.int .i64 0, .int .i64 0, .int .i64 0, .int .i64 0, .int .i64 0, .int .i64 0, .int .i64 0, .nilS]]⟩) (fun _ => 0) ⟨[.undef, .ptr st.length 0, .ptr (st.length + 1) 0, .undef, .undef, .undef, .undef, .undef, .undef, .undef, .nilS, .int .i64 0, .int .i64 0] ++ List.replicate 14 .undef, st ++ [.cells [.int .i64 au, .int .i64 ve, .int .i64 pr, .int .i64 ep, .int .i64 ne, .int .i64 se, .int .i64 sh, .nilS], .cells [.int .i64 0, .int .i64 0, .int .i64 0, .int .i64 0, .int .i64 0, .int .i64 0, .int .i64 0, .nilS]]⟩ ?_ rfl ?_
    · refine Forget.of ?_
      repeat first | exact fg_e | refine fg_d ?_ | refine fg_k rfl ?_
    rintro S rfl
    simp (maxSteps := 2000000) (disch := first | omega | simp only [List.length_append, List.length_cons, List.length_nil, List.length_map] <;> omega) only [sZ, getA0, ev_ldA, List.drop_zero, List.take_succ_cons, List.take_zero, List.set_cons_zero, List.set_cons_succ, lpK_e, apO_some, swp_seq, swp_reg, swp_ret, swp_exit, swp_cond, seqK_n, seqK_e, blkK_e, condK_f, evK_some, appK_eq, srun_nil, srun_cons, sk_bin, sk_load, sk_store, get_mk, raw_slot, put_some, put_none, wb_nil, bin_lss, ro_agg, ro1_int, ro1_nilS, List.map_cons, List.map_nil, List.getD_cons_zero, List.getD_cons_succ, List.getElem?_cons_zero, List.length_cons, List.length_nil, List.replicate_succ, List.replicate_zero, List.cons_append, List.nil_append, Nat.reduceAdd, ↓reduceIte, decide_false, Nat.zero_add, Int.reduceLT, List.length_append, Nat.le_refl]
    refine ⟨_, _, retOf_cell (n := 8) (id := st.length + 1) (l := [.int .i64 au, .int .i64 ve, .int .i64 pr, .int .i64 ep, .int .i64 ne, .int .i64 se, .int .i64 sh, .nilS]) rfl (by rw [getA]; rfl) rfl rfl, trim1 ho rfl, rfl, rfl⟩
  rw [cpV_not hn] at hk
  have hb := h.2.1
  simp only [Mf.cells] at hk ⊢
  simp (maxSteps := 2000000) (disch := first | omega | simp only [List.length_append, List.length_cons, List.length_nil, List.length_map] <;> omega) only [sf12, q1, q2, q3, q6, q7, cv_agg, cell_int, getA0, List.append_assoc, List.set_cons_zero, List.set_cons_succ, exc_agg, swp_seq, swp_reg, seqK_n, evK_some, appK_eq, srun_nil, srun_cons, stepK_call, swpF_eq, sk_fld, sk_load, sk_box, sk_alloc, get_mk, raw_slot, put_some, wb_nil, ev_fld, ev_box, ev_alloc, ev_ldP, ldP_some, ro1_int, got_agg, pubs, pubsFrom, List.map_cons, List.map_nil, List.getD_cons_zero, List.getD_cons_succ, List.getElem?_cons_zero, List.getElem?_cons_succ, List.length_cons, List.length_nil, List.replicate_succ, List.replicate_zero, List.cons_append, List.nil_append, Nat.reduceSub, Bool.false_eq_true, Option.map_some, ↓reduceIte, List.all_cons, List.all_nil, Bool.and_self, Nat.zero_add, List.length_append]
  refine callK_intro hk ?_
  simp (maxSteps := 2000000) (disch := first | omega | simp only [List.length_append, List.length_cons, List.length_nil, List.length_map] <;> omega) only [getA0, setA0, List.append_assoc, List.set_cons_zero, List.set_cons_succ, sk_storeO, ev_storeO_x, ro_slo, ev_lenO, apO_some, swp_seq, swp_reg, swp_block, seqK_n, evK_some, appK_eq, appC_eq, srun_nil, srun_cons, sk_mv, sk_fld, sk_load, sk_lenL, get_mk, raw_slot, raw_lit, put_some, put_none, wb_nil, wb_cons, ev_mv, ev_fld, ev_ldP, ldP_some, ro_int, List.map_cons, List.map_nil, List.getD_cons_zero, List.getD_cons_succ, List.getElem?_cons_zero, List.getElem?_cons_succ, List.length_cons, List.length_nil, List.cons_append, List.nil_append, Nat.reduceAdd, Nat.reduceLT, Option.map_some, ↓reduceIte, Nat.zero_add, List.length_append]
  have eA : (cpA st m).cells = [.int .i64 m.au, .int .i64 m.ve, .int .i64 m.pr, .int .i64 m.ep, .int .i64 m.ne, .int .i64 m.se, .int .i64 m.sh, .slo (st.length + 2) 0 m.ps.length] := rfl
  refine swp_lp (fun S => ∃ (i : Nat), i ≤ m.ps.length ∧ S = ⟨[.undef, .ptr st.length 0, .ptr (st.length + 1) 0, .undef, .undef, .undef, .undef, .undef, .undef, .undef, .slo (st.length + 2) 0 m.ps.length, .int .i64 m.ps.length, .int .i64 i] ++ List.replicate 14 .undef, st ++ cpB st m [.int .i64 0, .int .i64 0, .int .i64 0, .int .i64 0, .int .i64 0, .int .i64 0, .int .i64 0, .nilS] i⟩)
      (fun S => match S.get 12 with | .int _ k => ((m.ps.length : Int) - k).toNat | _ => 0)
      ⟨[.undef, .ptr st.length 0, .ptr (st.length + 1) 0, .undef, .undef, .undef, .undef, .undef, .undef, .undef, .slo (st.length + 2) 0 m.ps.length, .int .i64 m.ps.length, .int .i64 0] ++ List.replicate 14 .undef, st ++ [.cells [.int .i64 m.au, .int .i64 m.ve, .int .i64 m.pr, .int .i64 m.ep, .int .i64 m.ne, .int .i64 m.se, .int .i64 m.sh, .slo (st.length + 2) 0 m.ps.length], .cells [.int .i64 0, .int .i64 0, .int .i64 0, .int .i64 0, .int .i64 0, .int .i64 0, .int .i64 0, .nilS], .cells (m.ps.flatMap Pc.cells)]⟩ ?_ ⟨0, Nat.zero_le _, by rw [cpB_zero, eA]; rfl⟩ ?_
  · refine Forget.of ?_
    repeat first | exact fg_e | refine fg_d ?_ | refine fg_k rfl ?_
  rintro S ⟨i, hi, rfl⟩
  by_cases him : i = m.ps.length
  · have hd : decide ((i : Int) < (m.ps.length : Int)) = false := by rw [decide_eq_false_iff_not]; omega
    rw [him] at hd
    subst him
    rw [cpM_not hn, cpS_not hn, cpB_all, cpB_all, eA]
    have sZ := fun w X => st_aggA (st := st) (l := .cells [.int .i64 m.au, .int .i64 m.ve, .int .i64 m.pr, .int .i64 m.ep, .int .i64 m.ne, .int .i64 m.se, .int .i64 m.sh, .slo (st.length + 2) 0 m.ps.length] :: .cells [.int .i64 0, .int .i64 0, .int .i64 0, .int .i64 0, .int .i64 0, .int .i64 0, .int .i64 0, .nilS] :: w :: X) (i := 1) (n := 8) (b := true) (xs := [.int .i64 m.au, .int .i64 m.ve, .int .i64 m.pr, .int .i64 m.ep, .int .i64 m.ne, .int .i64 m.se, .int .i64 m.sh, .slo (st.length + 2) 0 m.ps.length]) rfl rfl rfl rfl rfl
    simp (maxSteps := 2000000) (disch := first | omega | simp only [List.length_append, List.length_cons, List.length_nil, List.length_map] <;> omega) only [hd, sZ, getA0, ev_ldA, List.drop_zero, List.take_succ_cons, List.take_zero, List.set_cons_zero, List.set_cons_succ, lpK_e, ro1_slo, apO_some, swp_seq, swp_reg, swp_ret, swp_exit, swp_cond, seqK_n, seqK_e, blkK_e, condK_f, evK_some, appK_eq, srun_nil, srun_cons, sk_bin, sk_load, sk_store, get_mk, raw_slot, put_some, put_none, wb_nil, bin_lss, ro_agg, ro1_int, List.map_cons, List.map_nil, List.getD_cons_zero, List.getD_cons_succ, List.getElem?_cons_zero, List.length_cons, List.length_nil, List.replicate_succ, List.replicate_zero, List.cons_append, List.nil_append, Nat.reduceAdd, ↓reduceIte, Nat.zero_add, List.length_append, Nat.le_refl]
    refine ⟨_, _, retOf_cell (n := 8) (id := st.length + 1) (l := [.int .i64 m.au, .int .i64 m.ve, .int .i64 m.pr, .int .i64 m.ep, .int .i64 m.ne, .int .i64 m.se, .int .i64 m.sh, .slo (st.length + 2) 0 m.ps.length]) rfl (by rw [getA]; rfl) rfl rfl, .same, rfl, rfl⟩
  have hd : decide ((i : Int) < (m.ps.length : Int)) = true := by rw [decide_eq_true_eq]; omega
  have hil : i < m.ps.length := by omega
  have fin : ((m.ps.length : Int) - ((i + 1 : Nat) : Int)).toNat < ((m.ps.length : Int) - (i : Int)).toNat := by omega
  obtain ⟨X, L, eR⟩ : ∃ X L, cpR (st.length + 3) (m.ps.take i) = (X, L) := ⟨_, _, rfl⟩
  have hL : L.length = i := by
    have := cpR_len (m.ps.take i) (st.length + 3)
    rw [eR, List.length_take] at this; simp only at this; omega
  have hnext := cpB_succ (b := [.int .i64 0, .int .i64 0, .int .i64 0, .int .i64 0, .int .i64 0, .int .i64 0, .int .i64 0, .nilS]) hil eR
  have hcur : cpB st m [.int .i64 0, .int .i64 0, .int .i64 0, .int .i64 0, .int .i64 0, .int .i64 0, .int .i64 0, .nilS] i = .cells [.int .i64 m.au, .int .i64 m.ve, .int .i64 m.pr, .int .i64 m.ep, .int .i64 m.ne, .int .i64 m.se, .int .i64 m.sh, .slo (st.length + 2) 0 m.ps.length] :: .cells [.int .i64 0, .int .i64 0, .int .i64 0, .int .i64 0, .int .i64 0, .int .i64 0, .int .i64 0, .nilS] :: .cells ((L ++ m.ps.drop i).flatMap Pc.cells) :: X := by
    unfold cpB; rw [eR]; rfl
  rw [eA] at hnext
  have oa := h.2.2 _ (List.getElem_mem hil)
  have hch := hc _ (List.getElem_mem hil)
  have hdrop := List.drop_eq_getElem_cons hil
  obtain ⟨p, ep⟩ : ∃ p, m.ps[i] = p := ⟨_, rfl⟩
  rw [ep] at hnext oa hch hdrop
  rw [hdrop] at hcur
  have hLf : (L.flatMap Pc.cells).length = i * 7 := by rw [flat_len (pc_len _), hL]
  have eF : (L ++ p :: m.ps.drop (i + 1)).flatMap Pc.cells = L.flatMap Pc.cells ++ (p.cells ++ (m.ps.drop (i + 1)).flatMap Pc.cells) := by rw [List.flatMap_append, List.flatMap_cons]
  have hset : ∀ v : SV, ((L ++ p :: m.ps.drop (i + 1)).flatMap Pc.cells).set (i * 7 + 3) v = (L ++ { p with cv := v } :: m.ps.drop (i + 1)).flatMap Pc.cells := by
    intro v
    rw [eF, set_mid hLf (by show 3 < 7; omega), List.flatMap_append, List.flatMap_cons]; rfl
  have hpart : List.take 7 (List.drop (i * 7) ((L ++ p :: m.ps.drop (i + 1)).flatMap Pc.cells)) = p.cells := by
    rw [eF, List.drop_append_of_le_length (by omega), List.drop_of_length_le (by omega), List.nil_append, List.take_append_of_le_length (by show 7 ≤ 7; omega), ptake]
  have hlen : i * 7 + 7 ≤ ((L ++ p :: m.ps.drop (i + 1)).flatMap Pc.cells).length := by
    rw [eF, List.length_append, List.length_append, hLf]; show i * 7 + 7 ≤ i * 7 + (7 + _); omega
  have hlt : i * 7 + 3 < ((L ++ p :: m.ps.drop (i + 1)).flatMap Pc.cells).length := by omega
  have m1 := ro1_pc oa
  have m2 := ro_pc oa
  obtain ⟨w1, w2, w3, w4, w6, w7⟩ := oa.1.facts
  have wv := oa.1.cv
  have cell := cell_pc oa
  obtain ⟨F, efF⟩ : ∃ F, (L ++ p :: m.ps.drop (i + 1)).flatMap Pc.cells = F := ⟨_, rfl⟩
  rw [efF] at hset hpart hlen hlt hcur
  have sP := st_aggA (st := st) (l := .cells [.int .i64 m.au, .int .i64 m.ve, .int .i64 m.pr, .int .i64 m.ep, .int .i64 m.ne, .int .i64 m.se, .int .i64 m.sh, .slo (st.length + 2) 0 m.ps.length] :: .cells [.int .i64 0, .int .i64 0, .int .i64 0, .int .i64 0, .int .i64 0, .int .i64 0, .int .i64 0, .nilS] :: .cells F :: (X ++ [.cells [.str [], .bool false, .int .i64 0, .nilS, .int .i64 0, .int .i64 0, .int .i64 0]])) (i := X.length + 1 + 1 + 1) (n := 7) (b := true) (xs := p.cells) (c := [.str [], .bool false, .int .i64 0, .nilS, .int .i64 0, .int .i64 0, .int .i64 0]) (by simp) m1 cell rfl rfl
  simp only [List.set_cons_succ, set_end'] at sP
  rw [hcur]
  rcases nil_or p.cv with hpn | hpn
  · have e38 : ∀ x, O104 28 [p.cv] (st ++ x) .nilS (st ++ x) := fun x => by
      have := r38 (RowAt.mono oa.1 x) hch
      rw [hpn] at this ⊢; exact this
    have hs0 : F.set (i * 7 + 3) .nilS = F := by
      rw [hset, ← efF, ← hpn]
    have hn2 := hnext
    rw [cpPc_nil hpn, cpX_nil hpn, efF] at hn2
    simp (maxSteps := 2000000) (disch := first | omega | simp only [List.length_append, List.length_cons, List.length_nil, List.length_map] <;> omega) only [hd, hpart, hlen, m1, sP, getA0, getA, ev_ldA, List.append_assoc, List.set_cons_zero, List.set_cons_succ, Int.toNat_natCast, apO_some, exc_int, sk_idxB, idxB_O, swp_seq, swp_reg, swp_skip, swp_block, swp_cond, seqK_n, condK_t, evK_some, appK_eq, srun_nil, srun_cons, sk_mv, sk_take, sk_bin, sk_fld, sk_load, sk_store, sk_alloc, get_mk, raw_slot, put_some, put_none, wb_nil, ev_mv, ev_take, ev_fld, bin_lss, ev_alloc, ev_ldP, ldP_some, ro_int, ro_agg, got_int, List.map_cons, List.map_nil, List.getD_cons_zero, List.getD_cons_succ, List.getElem?_cons_zero, List.getElem?_cons_succ, List.length_cons, List.length_nil, List.replicate_succ, List.replicate_zero, List.cons_append, List.nil_append, Nat.reduceAdd, Bool.false_eq_true, ↓reduceIte, Nat.zero_add, List.length_append]
    simp (maxSteps := 2000000) (disch := first | omega | simp only [List.length_append, List.length_cons, List.length_nil, List.length_map] <;> omega) only [pget3, w1, List.set_cons_zero, List.set_cons_succ, seqK_n, evK_some, appK_eq, srun_nil, put_some, wb_nil, Option.map_some]
    apply swp_to
    · repeat' first
        | exact swp_ttI
        | refine swp_bothI ?_ ?_
        | refine callK_intro (e38 _) ?_
        | exact ⟨rfl, rfl⟩
        | exact rfl
        | simp (maxSteps := 2000000) (disch := first | omega | simp only [List.length_append, List.length_cons, List.length_nil, List.length_map] <;> omega) only [hlt, hs0, w2, w3, getA0, getA, setA, List.set_cons_zero, List.set_cons_succ, Int.toNat_natCast, sk_storeO, ev_storeO_nil, ro_slo, ev_idxO, swp_reg, evK_some, appK_eq, appC_eq, srun_nil, srun_cons, stepK_call, sk_fld, sk_idxA, sk_load, get_mk, raw_slot, put_some, put_none, wb_nil, ev_fld, ev_ldP, ldP_some, stP_some, pubs, pubsFrom, List.map_cons, List.map_nil, List.getD_cons_zero, List.getD_cons_succ, List.getElem?_cons_zero, List.getElem?_cons_succ, true_and, Bool.false_eq_true, Option.map_some, ↓reduceIte, Nat.zero_add]
    simp (maxSteps := 2000000) (disch := first | omega | simp only [List.length_append, List.length_cons, List.length_nil, List.length_map] <;> omega) only [List.set_cons_zero, List.set_cons_succ, lpK_n, swp_reg, seqK_n, blkK_n, evK_some, appK_eq, srun_nil, srun_cons, sk_mv, sk_bin, get_mk, raw_slot, raw_lit, put_some, wb_nil, ev_mv, bin_add, ro_int, List.map_cons, List.map_nil, List.getD_cons_zero, List.getD_cons_succ, wrap_i64]
    refine ⟨_, ?_, ⟨i + 1, by omega, rfl⟩, by exact fin⟩
    rw [hn2]
    refine Forget.of ?_
    repeat first | exact fg_e | refine fg_d ?_ | refine fg_k rfl ?_
  · have e38 : ∀ x, O104 28 [p.cv] (st ++ x) (.sl (isv p.ch) p.ch.length (.excl 1)) (st ++ x) := fun x => by
      have := r38 (RowAt.mono oa.1 x) hch
      rw [cpI_not hpn] at this; exact this
    have hn2 := hnext
    rw [cpPc_not hpn, cpX_not hpn, ← hset] at hn2
    have hid : st.length + 3 + X.length + 1 = st.length + (X.length + 1 + 1 + 1 + 1) := by omega
    rw [hid] at hn2
    simp (maxSteps := 2000000) (disch := first | omega | simp only [List.length_append, List.length_cons, List.length_nil, List.length_map] <;> omega) only [hd, hpart, hlen, m1, sP, getA0, getA, ev_ldA, List.append_assoc, List.set_cons_zero, List.set_cons_succ, Int.toNat_natCast, apO_some, exc_int, sk_idxB, idxB_O, swp_seq, swp_reg, swp_skip, swp_block, swp_cond, seqK_n, condK_t, evK_some, appK_eq, srun_nil, srun_cons, sk_mv, sk_take, sk_bin, sk_fld, sk_load, sk_store, sk_alloc, get_mk, raw_slot, put_some, put_none, wb_nil, ev_mv, ev_take, ev_fld, bin_lss, ev_alloc, ev_ldP, ldP_some, ro_int, ro_agg, got_int, List.map_cons, List.map_nil, List.getD_cons_zero, List.getD_cons_succ, List.getElem?_cons_zero, List.getElem?_cons_succ, List.length_cons, List.length_nil, List.replicate_succ, List.replicate_zero, List.cons_append, List.nil_append, Nat.reduceAdd, Bool.false_eq_true, ↓reduceIte, Nat.zero_add, List.length_append]
    simp (maxSteps := 2000000) (disch := first | omega | simp only [List.length_append, List.length_cons, List.length_nil, List.length_map] <;> omega) only [pget3, w1, List.set_cons_zero, List.set_cons_succ, seqK_n, evK_some, appK_eq, srun_nil, put_some, wb_nil, Option.map_some]
    apply swp_to
    · repeat' first
        | exact swp_ttI
        | refine swp_bothI ?_ ?_
        | refine callK_intro (e38 _) ?_
        | exact ⟨rfl, rfl⟩
        | exact rfl
        | simp (maxSteps := 2000000) (disch := first | omega | simp only [List.length_append, List.length_cons, List.length_nil, List.length_map] <;> omega) only [hlt, w2, w3, getA0, getA, setA, List.append_assoc, List.set_cons_zero, List.set_cons_succ, Int.toNat_natCast, sk_storeO, ev_storeO_x, ro_slo, ev_idxO, apO_some, swp_reg, evK_some, appK_eq, appC_eq, srun_nil, srun_cons, stepK_call, sk_fld, sk_idxA, sk_load, get_mk, raw_slot, put_some, put_none, wb_nil, wb_cons, ev_fld, ev_ldP, ldP_some, pubs, pubsFrom, List.map_cons, List.map_nil, List.getD_cons_zero, List.getD_cons_succ, List.getElem?_cons_zero, List.getElem?_cons_succ, List.length_cons, List.length_nil, List.cons_append, List.nil_append, true_and, Bool.false_eq_true, Option.map_some, ↓reduceIte, Nat.zero_add, List.length_append]
    simp (maxSteps := 2000000) (disch := first | omega | simp only [List.length_append, List.length_cons, List.length_nil, List.length_map] <;> omega) only [List.set_cons_zero, List.set_cons_succ, lpK_n, swp_reg, seqK_n, blkK_n, evK_some, appK_eq, srun_nil, srun_cons, sk_mv, sk_bin, get_mk, raw_slot, raw_lit, put_some, wb_nil, ev_mv, bin_add, ro_int, List.map_cons, List.map_nil, List.getD_cons_zero, List.getD_cons_succ, wrap_i64]
    refine ⟨_, ?_, ⟨i + 1, by omega, rfl⟩, by exact fin⟩
    rw [hn2]
    refine Forget.of ?_
    repeat first | exact fg_e | refine fg_d ?_ | refine fg_k rfl ?_
def KCopy : List SV → List Ob → SV → List Ob → Prop := fun args st r st' => ∃ m : Mf, m.ok st ∧ (∀ p ∈ m.ps, p.ch.length ≤ 1048576) ∧ okSt st ∧ args = [.agg m.cells] ∧ r = .agg (cpM st m).cells ∧ st' = cpS st m
def O105 : Orc := O104.add 12 KCopy
theorem s105 : Sound Tryd.prog O105 := s104.add c12 (by kernel_rfl) (by
  rintro args st r st' ⟨m, h, hc, ho, rfl, rfl, rfl⟩
  exact ⟨by simp [sf12], g24 m st h hc ho⟩)
end Go.Sh.F
