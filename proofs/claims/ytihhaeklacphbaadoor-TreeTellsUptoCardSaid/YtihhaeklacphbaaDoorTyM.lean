/-
  Trees: In, the document's In; in the shadow machine.
  What the library's Delete and Insert tell of files, in the shadow machine.
  What the library's Insert tells of files, in the shadow machine.
  Trees: the document's Drop and Put; in the shadow machine.
  Trees: the document's Put; in the shadow machine.
  Trees: Drop and Put; in the shadow machine.
  Trees: Put; in the shadow machine.
  Trees: the laws' small case; in the shadow machine.
  Trees: the laws' small case; in the shadow machine.
  Trees: the laws' small case, walked.
  Trees: what the laws need of Put and Drop.
-/
import Derived.Test.YtihhaeklacphbaaDoorTrM
import Derived.Test.YtihhaeklacphbaaDoorTxM
set_option linter.unusedSimpArgs false
set_option linter.unusedVariables false
namespace Go.Sh.F
open Go.PathLaw Go.TreeLaw Go.Proofs
def inT (t : List F) (d : List UInt8) : List (List UInt8) := (t.filter fun f => underB f.1 d).map (·.1)
def inV (l : List (List UInt8)) : SV := if l = [] then .nilS else .sl (ssv l) l.length (.excl 1)
theorem inV_or (l : List (List UInt8)) : (l = [] ∧ inV l = .nilS) ∨ (l ≠ [] ∧ inV l = .sl (ssv l) l.length (.excl 1)) := by
  unfold inV
  by_cases h : l = []
  · exact .inl ⟨h, if_pos h⟩
  · exact .inr ⟨h, if_neg h⟩
theorem inT_snoc (l : List F) (f : F) (d : List UInt8) : inT (l ++ [f]) d = inT l d ++ (if underB f.1 d = true then [f.1] else []) := by
  unfold inT
  rw [List.filter_append, List.map_append]
  by_cases h : underB f.1 d = true
  · rw [if_pos h]; simp [h]
  · rw [if_neg h]; simp [h]
theorem inT_len (t : List F) (d : List UInt8) : (inT t d).length ≤ t.length := by
  unfold inT; rw [List.length_map]; exact List.length_filter_le _ _
theorem bslS {s : List Ob} {p : List UInt8} : ev s (.bsl 1 1 [.str []] [0]) [.str p] = some (.sl [.str p] 1 (.excl 1), [], s) := rfl
theorem appN {s : List Ob} {p : List UInt8} {z : List SV} : ev s (.app 1 16 z) [.nilS, .sl [.str p] 1 (.excl 1)] = some (.sl [.str p] 1 (.excl 1), [], s) := rfl
theorem appX {s : List Ob} {p : List UInt8} {l : List (List UInt8)} (hl : l.length ≤ 268435456) {z : List SV} : ev s (.app 1 16 z) [.sl (ssv l) l.length (.excl 1), .sl [.str p] 1 (.excl 1)] = some (.sl (ssv l ++ [.str p]) (l.length + 1) (.excl 1), [(0, .undef)], s) := by
  rw [app_excl (by simp [ssv]) rfl (by omega) (by omega)]
theorem inV_app (l : List (List UInt8)) (x : List UInt8) : inV (l ++ [x]) = .sl (ssv l ++ [.str x]) (l.length + 1) (.excl 1) := by
  unfold inV; rw [if_neg (by simp)]; simp [ssv]
theorem u30b {a b : List UInt8} (ha : sm a) (hb : sm b) (s : List Ob) : O321 30 [.str a, .str b] s (.bool (underB a b)) s := (by repeat first | exact Or.inr ⟨rfl, rfl, a, b, ha, hb, rfl, rfl⟩ | refine Or.inl ?_)
theorem u40b {a b : List UInt8} (ha : sm a) (hb : sm b) (s : List Ob) : O321 40 [.str a, .str b] s (.bool (underB a b)) s := (by repeat first | exact Or.inr ⟨rfl, rfl, a, b, ha, hb, rfl, rfl⟩ | refine Or.inl ?_)
theorem w19 {v : SV} {t : List F} {st : List Ob} (hv : RowF st v t) (hs : smT t) (ho : okSt st) : O321 19 [v] st (.bool (rightT t)) st := (by repeat first | exact Or.inr ⟨rfl, rfl, v, t, hv, hs, ho, rfl, rfl⟩ | refine Or.inl ?_)
theorem w20 {v : SV} {t : List F} {st : List Ob} (hv : RowF st v t) (hs : smT t) (ho : okSt st) : O321 20 [v] st (.bool (rightT t)) st := (by repeat first | exact Or.inr ⟨rfl, rfl, v, t, hv, hs, ho, rfl, rfl⟩ | refine Or.inl ?_)
def inR (t : List F) (d : List UInt8) : List (List UInt8) := if rightT t = true then inT t d else []
set_option maxHeartbeats 8000000 in
theorem t27 (v : SV) (t : List F) (d : List UInt8) (st : List Ob) (hv : RowF st v t) (hs : smT t) (hd' : sm d) (ho : okSt st) : swpF O321 sf27 [v, .str d] st (fun r st' => r = inV (inR t d) ∧ st' = st) := by
  have ib := fun i (hi : i < t.length) => RowAt.idxB hv hi .i64
  have ld := fun i (hi : i < t.length) => RowF.ld' hv hi
  obtain ⟨q1, q2, q3, q4, q6, q7⟩ := RowAt.facts hv
  have q5 := RowAt.lenL hv
  have hidv := RowF.idOk hv
  have hbl := hs.1
  simp only [fC] at ld
  simp (maxSteps := 2000000) (disch := first | omega | (simp only [List.length_append, List.length_cons, List.length_nil, List.length_map] <;> omega)) only [sf27, q1, q2, q3, List.set_cons_zero, List.set_cons_succ, flg_nilS, swp_seq, swp_reg, seqK_n, evK_some, appK_eq, srun_nil, srun_cons, stepK_call, swpF_eq, sk_mv, sk_give, get_mk, raw_slot, raw_lit, put_some, wb_nil, ev_mv, ev_give, ro_nilS, pubs, pubsFrom, List.map_cons, List.map_nil, List.getD_cons_zero, List.set_cons_zero, List.set_cons_succ, List.length_cons, List.length_nil, List.replicate_succ, List.replicate_zero, List.cons_append, List.nil_append, Nat.reduceAdd, Nat.reduceSub, Bool.false_eq_true, ↓reduceIte, Nat.zero_add]
  refine callK_intro (w19 hv hs ho) ?_
  cases hR : rightT t with
  | false =>
    have e : inV (inR t d) = .nilS := by unfold inR; rw [hR]; rfl
    rw [e]
    simp (maxSteps := 2000000) (disch := first | omega | (simp only [List.length_append, List.length_cons, List.length_nil, List.length_map] <;> omega)) only [List.set_cons_zero, List.set_cons_succ, flg_nilS, swp_seq, swp_reg, swp_ret, swp_cond, seqK_n, seqK_r, condK_t, evK_some, appK_eq, appC_eq, srun_nil, srun_cons, fin_ret, sk_give, sk_un, get_mk, raw_slot, raw_lit, put_some, wb_nil, ev_give, ev_not, ro_nilS, List.map_cons, List.map_nil, List.getD_cons_zero, List.getD_cons_succ, List.set_cons_zero, List.set_cons_succ, true_and, Bool.false_eq_true, ↓reduceIte, Bool.not_false]
    first | exact ⟨_, .same, rfl, rfl⟩ | exact ⟨_, .same, rfl⟩ | exact ⟨_, .same⟩
  | true =>
  have e : inR t d = inT t d := by unfold inR; rw [hR]; rfl
  rw [e]
  simp (maxSteps := 2000000) (disch := first | omega | (simp only [List.length_append, List.length_cons, List.length_nil, List.length_map] <;> omega)) only [q1, q5, List.set_cons_zero, List.set_cons_succ, exc_nilS, swp_seq, swp_reg, swp_skip, swp_block, swp_cond, seqK_n, condK_f, evK_some, appK_eq, appC_eq, srun_nil, srun_cons, sk_mv, sk_take, sk_un, sk_lenL, get_mk, raw_slot, raw_lit, put_some, wb_nil, ev_mv, ev_take, ev_not, ro_int, got_nilS, List.map_cons, List.map_nil, List.getD_cons_zero, List.getD_cons_succ, List.set_cons_zero, List.set_cons_succ, Bool.false_eq_true, ↓reduceIte, Bool.not_true]
  refine swp_lp (fun S => ∃ (i : Nat), i ≤ t.length ∧ S = ⟨[.undef, .str d, .undef, .undef, .undef, inV (inT (t.take i) d), .undef, .undef, .undef, .undef, .undef, v, .int .i64 t.length, .int .i64 i] ++ List.replicate 14 .undef, st⟩)
    (fun S => match S.get 13 with | .int _ k => ((t.length : Int) - k).toNat | _ => 0)
    ⟨[.undef, .str d, .undef, .undef, .undef, .nilS, .undef, .undef, .undef, .undef, .undef, v, .int .i64 t.length, .int .i64 0] ++ List.replicate 14 .undef, st⟩ ?_ ⟨0, Nat.zero_le _, rfl⟩ ?_
  · refine Forget.of ?_
    repeat first | exact fg_e | refine fg_d ?_ | refine fg_k rfl ?_
  rintro S ⟨i, hi, rfl⟩
  by_cases him : i = t.length
  · have hd : decide ((i : Int) < (t.length : Int)) = false := by rw [decide_eq_false_iff_not]; omega
    rw [him, List.take_length]
    rw [him] at hd
    rcases inV_or (inT t d) with ⟨_, hV⟩ | ⟨_, hV⟩ <;> rw [hV]
    · simp (maxSteps := 2000000) (disch := first | omega | (simp only [List.length_append, List.length_cons, List.length_nil, List.length_map] <;> omega)) only [hd, List.set_cons_zero, List.set_cons_succ, lpK_e, flg_nilS, swp_seq, swp_reg, swp_ret, swp_exit, swp_cond, seqK_n, seqK_e, blkK_e, condK_f, evK_some, appK_eq, srun_nil, srun_cons, fin_ret, sk_mv, sk_give, sk_bin, get_mk, raw_slot, put_some, wb_nil, ev_mv, ev_give, bin_lss, ro_nilS, List.map_cons, List.map_nil, List.getD_cons_zero, List.getD_cons_succ, List.set_cons_zero, List.set_cons_succ, List.replicate_succ, List.replicate_zero, List.cons_append, List.nil_append, true_and, Bool.false_eq_true, ↓reduceIte]
      first | exact ⟨_, .same, rfl, rfl⟩ | exact ⟨_, .same, rfl⟩ | exact ⟨_, .same⟩
    · simp (maxSteps := 2000000) (disch := first | omega | (simp only [List.length_append, List.length_cons, List.length_nil, List.length_map] <;> omega)) only [hd, List.set_cons_zero, List.set_cons_succ, lpK_e, flg_excl, swp_seq, swp_reg, swp_ret, swp_exit, swp_cond, seqK_n, seqK_e, blkK_e, condK_f, evK_some, appK_eq, srun_nil, srun_cons, fin_ret, sk_mv, sk_give, sk_bin, get_mk, raw_slot, put_some, wb_nil, wb_cons, ev_mv, ev_give, bin_lss, ro_excl, List.map_cons, List.map_nil, List.getD_cons_zero, List.getD_cons_succ, List.set_cons_zero, List.set_cons_succ, List.getElem?_cons_zero, List.replicate_succ, List.replicate_zero, List.cons_append, List.nil_append, true_and, ↓reduceIte]
      first | exact ⟨_, .same, rfl, rfl⟩ | exact ⟨_, .same, rfl⟩ | exact ⟨_, .same⟩
  have hd : decide ((i : Int) < (t.length : Int)) = true := by rw [decide_eq_true_eq]; omega
  have hil : i < t.length := by omega
  have fin := fin_ltT hil
  have b1 := ib i hil
  have b2 := ld i hil
  have sSt := st_fC (st := st) (c := [.str [], .str []]) (f := t[i]) rfl
  have hsn := inT_snoc (t.take i) t[i] d
  rw [List.take_append_getElem hil] at hsn
  have hlen : (inT (t.take i) d).length ≤ 268435456 := by have := inT_len (t.take i) d; rw [List.length_take] at this; omega
  have hsm := (hs.2 _ (List.getElem_mem hil)).1
  generalize inT (t.take i) d = l at hsn hlen ⊢
  rcases inV_or l with ⟨rfl, hV⟩ | ⟨hl0, hV⟩
  · rw [hV]
    simp (maxSteps := 2000000) (disch := first | omega | (simp only [List.length_append, List.length_cons, List.length_nil, List.length_map] <;> omega)) only [hd, b1, b2, sSt, getA0, Nat.add_zero, List.set_cons_zero, List.set_cons_succ, exc_str, sk_idxB, swp_seq, swp_reg, swp_skip, swp_block, swp_cond, seqK_n, condK_t, evK_some, appK_eq, srun_nil, srun_cons, stepK_call, sk_mv, sk_bin, sk_fld, sk_load, sk_store, sk_alloc, get_mk, raw_slot, put_some, put_none, wb_nil, ev_mv, ev_fld, bin_lss, ev_alloc, ev_ldP, ldP_some, ro_str, got_str, pubs, pubsFrom, List.map_cons, List.map_nil, List.getD_cons_zero, List.getD_cons_succ, List.set_cons_zero, List.set_cons_succ, List.getElem?_cons_zero, List.replicate_succ, List.replicate_zero, List.cons_append, List.nil_append, Bool.false_eq_true, Option.map_some, ↓reduceIte]
    refine callK_intro (u30b hsm hd' _) ?_
    cases hu : underB t[i].1 d with
    | true =>
      rw [hu, if_pos rfl] at hsn
      simp (maxSteps := 2000000) (disch := first | omega | (simp only [List.length_append, List.length_cons, List.length_nil, List.length_map] <;> omega)) only [cv_str, cell_str, getA0, Nat.add_zero, List.set_cons_zero, List.set_cons_succ, lpK_n, flg_excl, exc_str, swp_reg, swp_cond, seqK_n, blkK_n, condK_t, evK_some, appK_eq, appC_eq, srun_nil, srun_cons, sk_mv, sk_give, sk_bin, sk_fld, sk_load, sk_bsl, sk_app, get_mk, raw_slot, raw_lit, put_some, wb_nil, wb_cons, ev_mv, ev_give, ev_fld, bin_add, ev_bsl, ev_ldP, ldP_some, ro_int, ro_str, ro_nilS, ro_excl, got_str, pubs, pubsFrom, List.map_cons, List.map_nil, List.getD_cons_zero, List.getD_cons_succ, List.set_cons_zero, List.set_cons_succ, List.getElem?_cons_zero, List.length_cons, List.length_nil, List.replicate_succ, List.replicate_zero, Nat.reduceLT, and_true, Bool.false_eq_true, Option.map_some, ↓reduceIte, List.all_cons, List.all_nil, Bool.and_self, List.zip_cons_cons, List.zip_nil_right, rep, fillV, wrCells, List.flatten_cons, List.flatten_nil, List.append_nil, decide_true, Nat.mul_one, Nat.zero_add, wrap_i64, Nat.le_refl, app_nil]
      refine ⟨_, Forget.cut0 ?_ (Nat.le_refl _) ?_ ho, ⟨i + 1, by omega, by rw [hsn, inV_app]⟩, by exact fin⟩
      · repeat first | exact fg_e | refine fg_d ?_ | refine fg_k rfl ?_
      · simp [idOks, idOk, hidv, ssv]
    | false =>
      rw [hu, if_neg (by simp)] at hsn
      simp (maxSteps := 2000000) (disch := first | omega | (simp only [List.length_append, List.length_cons, List.length_nil, List.length_map] <;> omega)) only [List.set_cons_zero, List.set_cons_succ, lpK_n, swp_reg, swp_skip, swp_cond, seqK_n, blkK_n, condK_f, evK_some, appK_eq, appC_eq, srun_nil, srun_cons, sk_mv, sk_bin, get_mk, raw_slot, raw_lit, put_some, wb_nil, ev_mv, bin_add, ro_int, List.map_cons, List.map_nil, List.getD_cons_zero, List.getD_cons_succ, List.set_cons_zero, List.set_cons_succ, wrap_i64]
      refine ⟨_, Forget.cut0 ?_ (Nat.le_refl _) ?_ ho, ⟨i + 1, by omega, by rw [hsn, List.append_nil, hV]⟩, by exact fin⟩
      · repeat first | exact fg_e | refine fg_d ?_ | refine fg_k rfl ?_
      · simp [idOks, idOk, hidv]
  · have hids : idOks st.length (ssv l) = true := by
      clear hl0 hV hsn hlen
      unfold ssv
      induction l with
      | nil => rfl
      | cons x l ih => simp only [List.map_cons, idOks, idOk, Bool.true_and]; exact ih
    rw [hV]
    simp (maxSteps := 2000000) (disch := first | omega | (simp only [List.length_append, List.length_cons, List.length_nil, List.length_map] <;> omega)) only [hd, b1, b2, sSt, getA0, Nat.add_zero, List.set_cons_zero, List.set_cons_succ, exc_str, sk_idxB, swp_seq, swp_reg, swp_skip, swp_block, swp_cond, seqK_n, condK_t, evK_some, appK_eq, srun_nil, srun_cons, stepK_call, sk_mv, sk_bin, sk_fld, sk_load, sk_store, sk_alloc, get_mk, raw_slot, put_some, put_none, wb_nil, ev_mv, ev_fld, bin_lss, ev_alloc, ev_ldP, ldP_some, ro_str, got_str, pubs, pubsFrom, List.map_cons, List.map_nil, List.getD_cons_zero, List.getD_cons_succ, List.set_cons_zero, List.set_cons_succ, List.getElem?_cons_zero, List.replicate_succ, List.replicate_zero, List.cons_append, List.nil_append, Bool.false_eq_true, Option.map_some, ↓reduceIte]
    refine callK_intro (u30b hsm hd' _) ?_
    cases hu : underB t[i].1 d with
    | true =>
      rw [hu, if_pos rfl] at hsn
      have ha := fun s z => appX (s := s) (p := t[i].1) hlen (z := z)
      simp (maxSteps := 2000000) (disch := first | omega | (simp only [List.length_append, List.length_cons, List.length_nil, List.length_map] <;> omega)) only [ha, cv_str, cell_str, getA0, Nat.add_zero, List.set_cons_zero, List.set_cons_succ, lpK_n, flg_excl, exc_str, swp_reg, swp_cond, seqK_n, blkK_n, condK_t, evK_some, appK_eq, appC_eq, srun_nil, srun_cons, sk_mv, sk_give, sk_bin, sk_fld, sk_load, sk_bsl, sk_app, get_mk, raw_slot, raw_lit, put_some, wb_nil, wb_cons, ev_mv, ev_give, ev_fld, bin_add, ev_bsl, ev_ldP, ldP_some, ro_int, ro_str, ro_excl, got_str, pubs, pubsFrom, List.map_cons, List.map_nil, List.getD_cons_zero, List.getD_cons_succ, List.set_cons_zero, List.set_cons_succ, List.getElem?_cons_zero, List.length_cons, List.length_nil, List.replicate_succ, List.replicate_zero, Nat.reduceLT, and_true, Bool.false_eq_true, Option.map_some, ↓reduceIte, List.all_cons, List.all_nil, Bool.and_self, List.zip_cons_cons, List.zip_nil_right, rep, fillV, wrCells, List.flatten_cons, List.flatten_nil, List.append_nil, decide_true, Nat.mul_one, Nat.zero_add, wrap_i64, Nat.le_refl]
      refine ⟨_, Forget.cut0 ?_ (Nat.le_refl _) ?_ ho, ⟨i + 1, by omega, by rw [hsn, inV_app]⟩, by exact fin⟩
      · repeat first | exact fg_e | refine fg_d ?_ | refine fg_k rfl ?_
      · simp [idOks, idOk, hidv, idOks_app, hids]
    | false =>
      rw [hu, if_neg (by simp)] at hsn
      simp (maxSteps := 2000000) (disch := first | omega | (simp only [List.length_append, List.length_cons, List.length_nil, List.length_map] <;> omega)) only [List.set_cons_zero, List.set_cons_succ, lpK_n, swp_reg, swp_skip, swp_cond, seqK_n, blkK_n, condK_f, evK_some, appK_eq, appC_eq, srun_nil, srun_cons, sk_mv, sk_bin, get_mk, raw_slot, raw_lit, put_some, wb_nil, ev_mv, bin_add, ro_int, List.map_cons, List.map_nil, List.getD_cons_zero, List.getD_cons_succ, List.set_cons_zero, List.set_cons_succ, wrap_i64]
      refine ⟨_, Forget.cut0 ?_ (Nat.le_refl _) ?_ ho, ⟨i + 1, by omega, by rw [hsn, List.append_nil, hV]⟩, by exact fin⟩
      · repeat first | exact fg_e | refine fg_d ?_ | refine fg_k rfl ?_
      · simp [idOks, idOk, hidv, hids]
def KInT : List Ob → List SV → SV → Prop := fun st args r => ∃ (v : SV) (t : List F) (d : List UInt8), RowF st v t ∧ smT t ∧ sm d ∧ okSt st ∧ args = [v, .str d] ∧ r = inV (inR t d)
def O322 : Orc := O321.add 27 (StC KInT)
theorem s322 : Sound Tryd.prog O322 := s321.addS c27 (by kernel_rfl) (by
  rintro args r st ⟨v, t, d, hv, hs, hd, ho, rfl, rfl⟩
  exact ⟨by simp [sf27], t27 v t d st hv hs hd ho⟩)
set_option maxHeartbeats 8000000 in
theorem t28 (v : SV) (t : List F) (d : List UInt8) (st : List Ob) (hv : RowF st v t) (hs : smT t) (hd' : sm d) (ho : okSt st) : swpF O322 sf28 [v, .str d] st (fun r st' => r = inV (inR t d) ∧ st' = st) := by
  have ib := fun i (hi : i < t.length) => RowAt.idxB hv hi .i64
  have f0 := fun i (hi : i < t.length) => RowF.f0 hv hi []
  have fl0 := fun i (hi : i < t.length) (s : List Ob) => RowAt.fld hv (by omega) (i * 2) 0 s
  simp only [List.append_nil, Nat.add_zero] at f0 fl0
  obtain ⟨q1, q2, q3, q4, q6, q7⟩ := RowAt.facts hv
  have q5 := RowAt.lenL hv
  have hbl := hs.1
  simp (maxSteps := 2000000) (disch := first | omega | (simp only [List.length_append, List.length_cons, List.length_nil, List.length_map] <;> omega)) only [sf28, q1, q2, q3, List.set_cons_zero, List.set_cons_succ, flg_nilS, exc_nilS, swp_seq, swp_reg, seqK_n, evK_some, appK_eq, srun_nil, srun_cons, stepK_call, swpF_eq, sk_mv, sk_take, sk_give, get_mk, raw_slot, raw_lit, put_some, wb_nil, ev_mv, ev_take, ev_give, ro_nilS, got_nilS, pubs, pubsFrom, List.map_cons, List.map_nil, List.getD_cons_zero, List.set_cons_zero, List.set_cons_succ, List.length_cons, List.length_nil, List.replicate_succ, List.replicate_zero, List.cons_append, List.nil_append, Nat.reduceAdd, Nat.reduceSub, Bool.false_eq_true, ↓reduceIte, Nat.zero_add]
  refine callK_intro (.inl (w20 hv hs ho)) ?_
  cases hR : rightT t with
  | false =>
    have e : inV (inR t d) = .nilS := by unfold inR; rw [hR]; rfl
    rw [e]
    simp (maxSteps := 2000000) (disch := first | omega | (simp only [List.length_append, List.length_cons, List.length_nil, List.length_map] <;> omega)) only [List.set_cons_zero, List.set_cons_succ, flg_bool, exc_int, swp_seq, swp_reg, swp_block, seqK_n, evK_some, appK_eq, appC_eq, srun_nil, srun_cons, sk_take, sk_give, get_mk, raw_slot, raw_lit, put_some, wb_nil, ev_take, ev_give, ro_bool, got_int, List.map_cons, List.map_nil, List.getD_cons_zero, List.getD_cons_succ, List.set_cons_zero, List.set_cons_succ, Bool.false_eq_true, ↓reduceIte]
    refine swp_lp (fun S => S = ⟨[v, .str d, .undef, .undef, .undef, .nilS, .bool false, .int .i64 0] ++ List.replicate 27 .undef, st⟩) (fun _ => 0) ⟨[v, .str d, .undef, .undef, .undef, .nilS, .bool false, .int .i64 0] ++ List.replicate 27 .undef, st⟩ ?_ rfl ?_
    · refine Forget.of ?_
      repeat first | exact fg_e | refine fg_d ?_ | refine fg_k rfl ?_
    rintro S rfl
    rcases bf (decide ((0 : Int) < (t.length : Int))) with h0 | h0
    · simp (maxSteps := 2000000) (disch := first | omega | (simp only [List.length_append, List.length_cons, List.length_nil, List.length_map] <;> omega)) only [h0, q1, q5, List.set_cons_zero, List.set_cons_succ, lpK_e, flg_nilS, swp_seq, swp_reg, swp_ret, swp_exit, swp_cond, seqK_n, seqK_e, blkK_e, condK_f, evK_some, appK_eq, grd_t, srun_nil, srun_cons, stepK_grd, fin_ret, sk_mv, sk_give, sk_pick, sk_bin, sk_lenL, get_mk, raw_slot, raw_lit, put_some, wb_nil, ev_mv, ev_give, ev_pick, bin_lss, ro_int, ro_bool, ro_nilS, List.map_cons, List.map_nil, List.getD_cons_zero, List.getD_cons_succ, List.set_cons_zero, List.set_cons_succ, List.replicate_succ, List.replicate_zero, List.cons_append, List.nil_append, true_and, Bool.false_eq_true, ↓reduceIte]
      first | exact ⟨_, .same, rfl, rfl⟩ | exact ⟨_, .same, rfl⟩ | exact ⟨_, .same⟩
    · simp (maxSteps := 2000000) (disch := first | omega | (simp only [List.length_append, List.length_cons, List.length_nil, List.length_map] <;> omega)) only [h0, q1, q5, List.set_cons_zero, List.set_cons_succ, lpK_e, flg_nilS, exc_bool, swp_seq, swp_reg, swp_ret, swp_exit, swp_cond, seqK_n, seqK_e, blkK_e, condK_f, evK_some, appK_eq, grd_t, srun_nil, srun_cons, stepK_grd, fin_ret, sk_mv, sk_take, sk_give, sk_pick, sk_bin, sk_lenL, get_mk, raw_slot, raw_lit, put_some, wb_nil, ev_mv, ev_take, ev_give, ev_pick, bin_lss, ro_int, ro_bool, ro_nilS, got_bool, List.map_cons, List.map_nil, List.getD_cons_zero, List.getD_cons_succ, List.set_cons_zero, List.set_cons_succ, List.replicate_succ, List.replicate_zero, List.cons_append, List.nil_append, true_and, Bool.false_eq_true, ↓reduceIte]
      first | exact ⟨_, .same, rfl, rfl⟩ | exact ⟨_, .same, rfl⟩ | exact ⟨_, .same⟩
  | true =>
  have e : inR t d = inT t d := by unfold inR; rw [hR]; rfl
  rw [e]
  simp (maxSteps := 2000000) (disch := first | omega | (simp only [List.length_append, List.length_cons, List.length_nil, List.length_map] <;> omega)) only [List.set_cons_zero, List.set_cons_succ, flg_bool, exc_int, swp_seq, swp_reg, swp_block, seqK_n, evK_some, appK_eq, appC_eq, srun_nil, srun_cons, sk_take, sk_give, get_mk, raw_slot, raw_lit, put_some, wb_nil, ev_take, ev_give, ro_bool, got_int, List.map_cons, List.map_nil, List.getD_cons_zero, List.getD_cons_succ, List.set_cons_zero, List.set_cons_succ, Bool.false_eq_true, ↓reduceIte]
  refine swp_lp (fun S => ∃ (i : Nat), i ≤ t.length ∧ S = ⟨[v, .str d, .undef, .undef, .undef, inV (inT (t.take i) d), .bool true, .int .i64 i] ++ List.replicate 27 .undef, st⟩)
    (fun S => match S.get 7 with | .int _ k => ((t.length : Int) - k).toNat | _ => 0)
    ⟨[v, .str d, .undef, .undef, .undef, .nilS, .bool true, .int .i64 0] ++ List.replicate 27 .undef, st⟩ ?_ ⟨0, Nat.zero_le _, rfl⟩ ?_
  · refine Forget.of ?_
    repeat first | exact fg_e | refine fg_d ?_ | refine fg_k rfl ?_
  rintro S ⟨i, hi, rfl⟩
  by_cases him : i = t.length
  · have hd : decide ((i : Int) < (t.length : Int)) = false := by rw [decide_eq_false_iff_not]; omega
    rw [him, List.take_length]
    rw [him] at hd
    rcases inV_or (inT t d) with ⟨_, hV⟩ | ⟨_, hV⟩ <;> rw [hV]
    · simp (maxSteps := 2000000) (disch := first | omega | (simp only [List.length_append, List.length_cons, List.length_nil, List.length_map] <;> omega)) only [hd, q1, q5, List.set_cons_zero, List.set_cons_succ, lpK_e, flg_nilS, swp_seq, swp_reg, swp_ret, swp_exit, swp_cond, seqK_n, seqK_e, blkK_e, condK_f, evK_some, appK_eq, grd_t, srun_nil, srun_cons, stepK_grd, fin_ret, sk_mv, sk_give, sk_pick, sk_bin, sk_lenL, get_mk, raw_slot, raw_lit, put_some, wb_nil, ev_mv, ev_give, ev_pick, bin_lss, ro_int, ro_bool, ro_nilS, List.map_cons, List.map_nil, List.getD_cons_zero, List.getD_cons_succ, List.set_cons_zero, List.set_cons_succ, List.replicate_succ, List.replicate_zero, List.cons_append, List.nil_append, true_and, Bool.false_eq_true, ↓reduceIte]
      first | exact ⟨_, .same, rfl, rfl⟩ | exact ⟨_, .same, rfl⟩ | exact ⟨_, .same⟩
    · simp (maxSteps := 2000000) (disch := first | omega | (simp only [List.length_append, List.length_cons, List.length_nil, List.length_map] <;> omega)) only [hd, q1, q5, List.set_cons_zero, List.set_cons_succ, lpK_e, flg_excl, swp_seq, swp_reg, swp_ret, swp_exit, swp_cond, seqK_n, seqK_e, blkK_e, condK_f, evK_some, appK_eq, grd_t, srun_nil, srun_cons, stepK_grd, fin_ret, sk_mv, sk_give, sk_pick, sk_bin, sk_lenL, get_mk, raw_slot, raw_lit, put_some, wb_nil, wb_cons, ev_mv, ev_give, ev_pick, bin_lss, ro_int, ro_bool, ro_excl, List.map_cons, List.map_nil, List.getD_cons_zero, List.getD_cons_succ, List.set_cons_zero, List.set_cons_succ, List.getElem?_cons_zero, List.replicate_succ, List.replicate_zero, List.cons_append, List.nil_append, true_and, Bool.false_eq_true, ↓reduceIte]
      first | exact ⟨_, .same, rfl, rfl⟩ | exact ⟨_, .same, rfl⟩ | exact ⟨_, .same⟩
  have hd : decide ((i : Int) < (t.length : Int)) = true := by rw [decide_eq_true_eq]; omega
  have hil : i < t.length := by omega
  have fin := fin_ltT hil
  have b1 := ib i hil
  have b2 := f0 i hil
  have b3 := fl0 i hil
  have hsn := inT_snoc (t.take i) t[i] d
  rw [List.take_append_getElem hil] at hsn
  have hlen : (inT (t.take i) d).length ≤ 268435456 := by have := inT_len (t.take i) d; rw [List.length_take] at this; omega
  have hsm := (hs.2 _ (List.getElem_mem hil)).1
  generalize inT (t.take i) d = l at hsn hlen ⊢
  rcases inV_or l with ⟨rfl, hV⟩ | ⟨hl0, hV⟩
  · rw [hV]
    simp (maxSteps := 2000000) (disch := first | omega | (simp only [List.length_append, List.length_cons, List.length_nil, List.length_map] <;> omega)) only [hd, b1, b2, b3, q1, q5, List.set_cons_zero, List.set_cons_succ, exc_bool, exc_str, sk_idxB, swp_seq, swp_reg, swp_skip, swp_block, swp_cond, seqK_n, condK_t, evK_some, appK_eq, grd_t, srun_nil, srun_cons, stepK_call, stepK_grd, sk_mv, sk_take, sk_pick, sk_bin, sk_fld, sk_load, sk_lenL, get_mk, raw_slot, raw_lit, put_some, wb_nil, ev_mv, ev_take, ev_pick, bin_lss, ro_int, ro_bool, ro_str, got_bool, got_str, pubs, pubsFrom, List.map_cons, List.map_nil, List.getD_cons_zero, List.getD_cons_succ, List.set_cons_zero, List.set_cons_succ, List.replicate_succ, List.replicate_zero, List.cons_append, List.nil_append, Bool.false_eq_true, ↓reduceIte]
    refine callK_intro (.inl (u40b hsm hd' _)) ?_
    cases hu : underB t[i].1 d with
    | true =>
      rw [hu, if_pos rfl] at hsn
      simp (maxSteps := 2000000) (disch := first | omega | (simp only [List.length_append, List.length_cons, List.length_nil, List.length_map] <;> omega)) only [b1, b2, b3, q1, cv_str, cell_str, List.set_cons_zero, List.set_cons_succ, lpK_n, flg_int, flg_excl, exc_str, sk_idxB, swp_reg, swp_cond, seqK_n, blkK_n, condK_t, evK_some, appK_eq, appC_eq, srun_nil, srun_cons, sk_mv, sk_give, sk_bin, sk_fld, sk_load, sk_bsl, sk_app, get_mk, raw_slot, raw_lit, put_some, wb_nil, wb_cons, ev_mv, ev_give, bin_add, ev_bsl, ro_int, ro_nilS, ro_excl, got_str, pubs, pubsFrom, List.map_cons, List.map_nil, List.getD_cons_zero, List.getD_cons_succ, List.set_cons_zero, List.set_cons_succ, List.getElem?_cons_zero, List.length_cons, List.length_nil, List.replicate_succ, List.replicate_zero, Nat.reduceLT, and_true, Bool.false_eq_true, Option.map_some, ↓reduceIte, List.all_cons, List.all_nil, Bool.and_self, List.zip_cons_cons, List.zip_nil_right, rep, fillV, wrCells, List.flatten_cons, List.flatten_nil, List.append_nil, decide_true, Nat.mul_one, Nat.zero_add, wrap_i64, Nat.le_refl, app_nil]
      refine ⟨_, ?_, ⟨i + 1, by omega, by rw [hsn, inV_app]⟩, by exact fin⟩
      refine Forget.of ?_
      repeat first | exact fg_e | refine fg_d ?_ | refine fg_k rfl ?_
    | false =>
      rw [hu, if_neg (by simp)] at hsn
      simp (maxSteps := 2000000) (disch := first | omega | (simp only [List.length_append, List.length_cons, List.length_nil, List.length_map] <;> omega)) only [List.set_cons_zero, List.set_cons_succ, lpK_n, flg_int, swp_reg, swp_skip, swp_cond, seqK_n, blkK_n, condK_f, evK_some, appK_eq, appC_eq, srun_nil, srun_cons, sk_mv, sk_give, sk_bin, get_mk, raw_slot, raw_lit, put_some, wb_nil, ev_mv, ev_give, bin_add, ro_int, List.map_cons, List.map_nil, List.getD_cons_zero, List.getD_cons_succ, List.set_cons_zero, List.set_cons_succ, Bool.false_eq_true, ↓reduceIte, wrap_i64]
      refine ⟨_, ?_, ⟨i + 1, by omega, by rw [hsn, List.append_nil, hV]⟩, by exact fin⟩
      refine Forget.of ?_
      repeat first | exact fg_e | refine fg_d ?_ | refine fg_k rfl ?_
  · rw [hV]
    simp (maxSteps := 2000000) (disch := first | omega | (simp only [List.length_append, List.length_cons, List.length_nil, List.length_map] <;> omega)) only [hd, b1, b2, b3, q1, q5, List.set_cons_zero, List.set_cons_succ, exc_bool, exc_str, sk_idxB, swp_seq, swp_reg, swp_skip, swp_block, swp_cond, seqK_n, condK_t, evK_some, appK_eq, grd_t, srun_nil, srun_cons, stepK_call, stepK_grd, sk_mv, sk_take, sk_pick, sk_bin, sk_fld, sk_load, sk_lenL, get_mk, raw_slot, raw_lit, put_some, wb_nil, ev_mv, ev_take, ev_pick, bin_lss, ro_int, ro_bool, ro_str, got_bool, got_str, pubs, pubsFrom, List.map_cons, List.map_nil, List.getD_cons_zero, List.getD_cons_succ, List.set_cons_zero, List.set_cons_succ, List.replicate_succ, List.replicate_zero, List.cons_append, List.nil_append, Bool.false_eq_true, ↓reduceIte]
    refine callK_intro (.inl (u40b hsm hd' _)) ?_
    cases hu : underB t[i].1 d with
    | true =>
      rw [hu, if_pos rfl] at hsn
      have ha := fun s z => appX (s := s) (p := t[i].1) hlen (z := z)
      simp (maxSteps := 2000000) (disch := first | omega | (simp only [List.length_append, List.length_cons, List.length_nil, List.length_map] <;> omega)) only [b1, b2, b3, q1, ha, cv_str, cell_str, List.set_cons_zero, List.set_cons_succ, lpK_n, flg_int, flg_excl, exc_str, sk_idxB, swp_reg, swp_cond, seqK_n, blkK_n, condK_t, evK_some, appK_eq, appC_eq, srun_nil, srun_cons, sk_mv, sk_give, sk_bin, sk_fld, sk_load, sk_bsl, sk_app, get_mk, raw_slot, raw_lit, put_some, wb_nil, wb_cons, ev_mv, ev_give, bin_add, ev_bsl, ro_int, ro_excl, got_str, pubs, pubsFrom, List.map_cons, List.map_nil, List.getD_cons_zero, List.getD_cons_succ, List.set_cons_zero, List.set_cons_succ, List.getElem?_cons_zero, List.length_cons, List.length_nil, List.replicate_succ, List.replicate_zero, Nat.reduceLT, and_true, Bool.false_eq_true, Option.map_some, ↓reduceIte, List.all_cons, List.all_nil, Bool.and_self, List.zip_cons_cons, List.zip_nil_right, rep, fillV, wrCells, List.flatten_cons, List.flatten_nil, List.append_nil, decide_true, Nat.mul_one, Nat.zero_add, wrap_i64, Nat.le_refl]
      refine ⟨_, ?_, ⟨i + 1, by omega, by rw [hsn, inV_app]⟩, by exact fin⟩
      refine Forget.of ?_
      repeat first | exact fg_e | refine fg_d ?_ | refine fg_k rfl ?_
    | false =>
      rw [hu, if_neg (by simp)] at hsn
      simp (maxSteps := 2000000) (disch := first | omega | (simp only [List.length_append, List.length_cons, List.length_nil, List.length_map] <;> omega)) only [List.set_cons_zero, List.set_cons_succ, lpK_n, flg_int, swp_reg, swp_skip, swp_cond, seqK_n, blkK_n, condK_f, evK_some, appK_eq, appC_eq, srun_nil, srun_cons, sk_mv, sk_give, sk_bin, get_mk, raw_slot, raw_lit, put_some, wb_nil, ev_mv, ev_give, bin_add, ro_int, List.map_cons, List.map_nil, List.getD_cons_zero, List.getD_cons_succ, List.set_cons_zero, List.set_cons_succ, Bool.false_eq_true, ↓reduceIte, wrap_i64]
      refine ⟨_, ?_, ⟨i + 1, by omega, by rw [hsn, List.append_nil, hV]⟩, by exact fin⟩
      refine Forget.of ?_
      repeat first | exact fg_e | refine fg_d ?_ | refine fg_k rfl ?_
def O323 : Orc := O322.add 28 (StC KInT)
theorem s323 : Sound Tryd.prog O323 := s322.addS c28 (by kernel_rfl) (by
  rintro args r st ⟨v, t, d, hv, hs, hd, ho, rfl, rfl⟩
  exact ⟨by simp [sf28], t28 v t d st hv hs hd ho⟩)
end Go.Sh.F
namespace Go.Sh.F
open Go.PathLaw Go.TreeLaw Go.Proofs Go.RowKit
/-- Values and what is known of them. -/
def LV (g : Gh) (w : World) (vs : List Value) (xs : List SV) : Prop := vs.length = xs.length ∧ ∀ i (h : i < vs.length) (h' : i < xs.length), (vs[i]'h).oneCell' = true ∧ V g w none (vs[i]'h) (xs[i]'h')
theorem LV.app {g : Gh} {w : World} {a b : List Value} {x y : List SV} (h : LV g w a x) (k : LV g w b y) : LV g w (a ++ b) (x ++ y) := by
  refine ⟨by rw [List.length_append, List.length_append, h.1, k.1], fun i h1 h2 => ?_⟩
  rw [List.getElem_append, List.getElem_append]
  by_cases hi : i < a.length
  · rw [dif_pos hi, dif_pos (by rw [← h.1]; exact hi)]
    exact h.2 i hi _
  · rw [dif_neg hi, dif_neg (by rw [← h.1]; exact hi)]
    have := k.2 (i - a.length) (by rw [List.length_append] at h1; omega) (by rw [List.length_append] at h2; have := h.1; omega)
    simpa only [h.1] using this
theorem LV.take {g : Gh} {w : World} {a : List Value} {x : List SV} (h : LV g w a x) (n : Nat) : LV g w (a.take n) (x.take n) := by
  refine ⟨by rw [List.length_take, List.length_take, h.1], fun i h1 h2 => ?_⟩
  rw [List.getElem_take, List.getElem_take]
  exact h.2 i _ _
theorem LV.drop {g : Gh} {w : World} {a : List Value} {x : List SV} (h : LV g w a x) (n : Nat) : LV g w (a.drop n) (x.drop n) := by
  refine ⟨by rw [List.length_drop, List.length_drop, h.1], fun i h1 h2 => ?_⟩
  rw [List.getElem_drop, List.getElem_drop]
  exact h.2 _ _ _
theorem LV.one {g : Gh} {w : World} {a : List Value} {x : List SV} (h : LV g w a x) : ∀ v ∈ a, v.oneCell' = true := by
  intro v hv
  obtain ⟨i, hi, rfl⟩ := List.getElem_of_mem hv
  exact (h.2 i hi (by rw [← h.1]; exact hi)).1
/-- What is asked of a result, out of values one behind the other. -/
theorem LV.fin {g : Gh} {w w' : World} {R : List Value} {ys : List SV} {b : Nat} (h : LV g w R ys) (hc : ∀ k v, R[k]? = some v → w'.cell? ⟨b, 0 + k, none⟩ = some v) :
    ∀ i (hi : i < ys.length), w'.cell? ⟨b, 0 + i, none⟩ = some ((fun k => R.getD k Go.undef) i) ∧ ((fun k => R.getD k Go.undef) i).oneCell' = true ∧ V g w none ((fun k => R.getD k Go.undef) i) (ys[i]'hi) := by
  intro i hi
  have hi2 : i < R.length := by rw [h.1]; exact hi
  have e : R.getD i Go.undef = R[i] := by rw [List.getD_eq_getElem?_getD, List.getElem?_eq_getElem hi2]; rfl
  simp only [e]
  exact ⟨hc i _ (List.getElem?_eq_getElem hi2), h.2 i hi2 hi⟩
theorem LV.of {g : Gh} {w : World} {b : Nat} {F : Nat → Value} {xs : List SV} (hc : ∀ i, i < xs.length → w.cell? ⟨b, 0 + i, none⟩ = some (F i)) (h1 : ∀ i, i < xs.length → (F i).oneCell' = true) (hx : ∀ i (h : i < xs.length), V g w none (F i) (xs[i]'h)) :
    LV g w ((List.range xs.length).map F) xs ∧ ∀ k v, ((List.range xs.length).map F)[k]? = some v → w.cell? ⟨b, 0 + k, none⟩ = some v := by
  refine ⟨⟨by simp, fun i h h' => ?_⟩, fun k v hk => ?_⟩
  · simp only [List.getElem_map, List.getElem_range]
    exact ⟨h1 i h', hx i h'⟩
  · rw [List.getElem?_map] at hk
    simp only [Option.map_eq_some_iff] at hk
    obtain ⟨i, hi, rfl⟩ := hk
    obtain ⟨h2, rfl⟩ := List.getElem?_eq_some_iff.1 hi
    simp only [List.length_range] at h2
    rw [List.getElem_range]
    exact hc k h2
theorem gro_frozen {w : World} {b cap : Nat} (h : Gro w b cap 2) (k : Nat) : w.frozen? ⟨b, k, none⟩ = false := by
  obtain ⟨cur, E, lo, hi, hb, _, h2, _⟩ := h
  unfold World.frozen?
  rw [hb]
  simp
  omega
theorem gro_some {w : World} {b cap : Nat} (h : Gro w b cap 2) {k : Nat} (hk : k < cap * 2) : (w.cell? ⟨b, k, none⟩).isSome = true := by
  obtain ⟨cur, E, lo, hi, hb, h1, _, _⟩ := h
  rw [cell_at hb, Array.getElem?_eq_getElem (by omega)]
  rfl
theorem gro_cap {w : World} {b cap : Nat} (h : Gro w b cap 2) : cap ≤ maxLen := by
  obtain ⟨_, _, _, _, _, _, _, h⟩ := h
  exact h
theorem gro_shape {w : World} {b cap : Nat} (h : Gro w b cap 2) : ∃ t k, w.shape? b = some (t, k) ∧ cap * 2 ≤ k := by
  obtain ⟨cur, E, lo, hi, hb, h1, _, _⟩ := h
  exact ⟨E, cur.size, by unfold World.shape?; rw [hb], h1⟩
theorem gro_set {w : World} {b cap : Nat} (h : Gro w b cap 2) (o : Nat) (vs : List Value) : Gro (w.setCells b o vs) b cap 2 := by
  obtain ⟨cur, E, lo, hi, hb, h1, h2, h3⟩ := h
  obtain ⟨cur', hb', hs⟩ := setCells_block b vs o w cur E (lo, hi) hb
  exact ⟨cur', E, lo, hi, hb', by omega, by omega, h3⟩
theorem gro_drew {w : World} {b cap : Nat} (h : Gro w b cap 2) : Gro w.drew b cap 2 := h
/-- One world behind another, but for one block. -/
structure Far (w w' : World) (b : Nat) : Prop where
  os : w'.os = w.os
  tape : w'.tape = w.tape
  output : w'.output = w.output
  size : w.heap.size ≤ w'.heap.size
  heap : ∀ k, k < w.heap.size → k ≠ b → w'.heap[k]? = w.heap[k]?
theorem Far.refl (w : World) (b : Nat) : Far w w b := ⟨rfl, rfl, rfl, Nat.le_refl _, fun _ _ _ => rfl⟩
theorem Far.drew {w w' : World} {b : Nat} (h : Far w w' b) : Far w w'.drew b := ⟨h.os, h.tape, h.output, h.size, h.heap⟩
theorem Far.set {w w' : World} {b : Nat} (h : Far w w' b) (o : Nat) (vs : List Value) : Far w (w'.setCells b o vs) b := by
  obtain ⟨s1, s2, s3, s4⟩ := setCells_same b vs o w'
  refine ⟨s1.trans h.os, s2.trans h.tape, s3.trans h.output, by rw [s4]; exact h.size, fun k hk hkb => ?_⟩
  rw [setCells_heap b vs o w' k hkb]
  exact h.heap k hk hkb
theorem take_fC (i : Nat) : ∀ t : List F, (t.flatMap fC).take (i * 2) = (t.take i).flatMap fC := by
  induction i with
  | zero => intro t; simp
  | succ i ih =>
    intro t
    cases t with
    | nil => simp
    | cons f t =>
      rw [List.flatMap_cons, List.take_succ_cons, List.flatMap_cons, ← ih t]
      show List.take ((i + 1) * 2) (.str f.1 :: .str f.2 :: t.flatMap fC) = .str f.1 :: .str f.2 :: List.take (i * 2) (t.flatMap fC)
      rw [show (i + 1) * 2 = i * 2 + 1 + 1 by omega, List.take_succ_cons, List.take_succ_cons]
theorem drop_fC (i : Nat) : ∀ t : List F, (t.flatMap fC).drop (i * 2) = (t.drop i).flatMap fC := by
  induction i with
  | zero => intro t; simp
  | succ i ih =>
    intro t
    cases t with
    | nil => simp
    | cons f t =>
      rw [List.flatMap_cons, List.drop_succ_cons, ← ih t]
      show List.drop ((i + 1) * 2) (.str f.1 :: .str f.2 :: t.flatMap fC) = List.drop (i * 2) (t.flatMap fC)
      rw [show (i + 1) * 2 = i * 2 + 1 + 1 by omega, List.drop_succ_cons, List.drop_succ_cons]
def KDelX : List SV → List Ob → SV → List Ob → Prop := fun args st r st' => st' = st ∧ ∃ (t : List F) (i : Nat), i < t.length ∧ t.length ≤ 268435456 ∧ args = [.sl (t.flatMap fC) t.length (.excl 2), .int .i64 (i : Int), .int .i64 ((i + 1 : Nat) : Int)] ∧ r = .sl ((t.take i ++ t.drop (i + 1)).flatMap fC) (t.length - 1) (.excl 2)
theorem rDel (hp : plainB Tryd.prog 42 = true) (args : List SV) (st : List Ob) (r : SV) (st' : List Ob) (h : KDelX args st r st') : RealX Tryd.prog 42 args st r st' := by
  obtain ⟨rfl, t, i, hi, hn, rfl, rfl⟩ := h
  refine ⟨plain_of hp, rfl, 2, _, _, _, rfl, by rw [len_fC, List.length_append, List.length_take, List.length_drop]; omega, .inl ⟨_, _, 1, rfl, rfl, ?_⟩⟩
  intro g w b cap F vs hnc hc h1 hx hl hm hG hvs
  obtain ⟨hvl, hV⟩ := hvs
  obtain ⟨v1, v2, rfl⟩ : ∃ v1 v2, vs = [v1, v2] := two_of hvl
  obtain ⟨o1, e1⟩ := hV 0 (by simp) (by simp)
  obtain ⟨o2, e2⟩ := hV 1 (by simp) (by simp)
  simp only [List.getElem_cons_zero, List.getElem_cons_succ] at e1 e2
  rw [e1.int_inv, e2.int_inv]
  obtain ⟨hLV, hcs⟩ := LV.of hc h1 hx
  have hcl : ((List.range (t.flatMap fC).length).map F).length = t.length * 2 := by rw [List.length_map, List.length_range, len_fC]
  generalize (List.range (t.flatMap fC).length).map F = cs at hLV hcs hcl
  have hcap := gro_cap hG
  unfold maxLen at hcap
  have hD := Tryd.delete_F w b cap t.length i (i + 1) cs hcl (Nat.lt_succ_self i) hi hnc (by omega) hcs (fun k _ => gro_frozen hG _) hLV.one
  refine hD.mono ?_
  rintro e w' ⟨rfl, rfl⟩
  have hres : LV g w (cs.take (i * 2) ++ cs.drop ((i + 1) * 2)) ((t.take i ++ t.drop (i + 1)).flatMap fC) := by
    rw [List.flatMap_append, ← take_fC, ← drop_fC]
    exact (hLV.take _).app (hLV.drop _)
  have hF := ((((Far.refl w b).drew).set (0 + i * 2) (cs.drop ((i + 1) * 2))).set (0 + (i + (t.length - (i + 1))) * 2) (List.replicate ((t.length - (i + (t.length - (i + 1)))) * 2) (.string ⟨#[]⟩)))
  have hG2 := gro_set (gro_set (gro_drew hG) (0 + i * 2) (cs.drop ((i + 1) * 2))) (0 + (i + (t.length - (i + 1))) * 2) (List.replicate ((t.length - (i + (t.length - (i + 1)))) * 2) (.string ⟨#[]⟩))
  refine ⟨b, cap, _, by rw [show t.length - (i + 1 - i) = t.length - 1 by omega], by omega, ⟨hF.os, hF.tape, hF.output, hF.size⟩, hF.heap, .inl rfl, hG2, hres.fin ?_⟩
  intro k v hk
  have hkl := (List.getElem?_eq_some_iff.1 hk).1
  rw [List.length_append, List.length_take, List.length_drop, hcl] at hkl
  rw [World.cell?_setCells_out _ _ _ _ _ (fun _ _ => by left; show 0 + k < _; omega)]
  by_cases hki : k < i * 2
  · rw [World.cell?_setCells_out _ _ _ _ _ (fun _ _ => by left; show 0 + k < _; omega)]
    rw [List.getElem?_append_left (by rw [List.length_take, hcl]; omega), List.getElem?_take_of_lt hki] at hk
    exact hcs k v hk
  · have hin := World.cell?_setCells_in b (cs.drop ((i + 1) * 2)) (0 + i * 2) w.drew (fun j hj => by rw [List.length_drop, hcl] at hj; exact gro_some (gro_drew hG) (by omega)) (k - i * 2) (by rw [List.length_drop, hcl]; omega)
    rw [show 0 + i * 2 + (k - i * 2) = 0 + k by omega] at hin
    rw [hin]
    rw [List.getElem?_append_right (by rw [List.length_take, hcl]; omega), List.length_take, hcl, Nat.min_eq_left (by omega)] at hk
    rw [← hk]
    first | rfl | (rw [List.getElem?_eq_getElem])
end Go.Sh.F
namespace Go.Sh.F
open Go.PathLaw Go.TreeLaw Go.Proofs Go.RowKit Go.Lib
theorem Far.alloc (w : World) (o : Obj) (b : Nat) : Far w (w.alloc o) b := ⟨rfl, rfl, rfl, by show _ ≤ (w.heap.push o).size; rw [Array.size_push]; omega, fun k hk _ => by
  show (w.heap.push o)[k]? = _
  rw [Array.getElem?_push, if_neg (by omega)]⟩
theorem gro_new (w : World) (arr : Array Value) (t : TypeId) (cap : Nat) (h1 : cap * 2 ≤ arr.size) (h2 : cap ≤ maxLen) : Gro (w.alloc (.cells arr t)) w.heap.size cap 2 :=
  ⟨arr, t, 0, 0, by show (w.heap.push _)[w.heap.size]? = _; rw [Array.getElem?_push, if_pos rfl], h1, .inl (Nat.le_refl 0), h2⟩
theorem cells3 {W : World} {b : Nat} {x y z : List Value} (hx : ∀ j v, x[j]? = some v → W.cell? ⟨b, j, none⟩ = some v) (hy : ∀ j v, y[j]? = some v → W.cell? ⟨b, x.length + j, none⟩ = some v)
    (hz : ∀ j v, z[j]? = some v → W.cell? ⟨b, x.length + (y.length + j), none⟩ = some v) : ∀ p v, (x ++ (y ++ z))[p]? = some v → W.cell? ⟨b, 0 + p, none⟩ = some v := by
  intro p v h
  rw [Nat.zero_add]
  rw [List.getElem?_append] at h
  split at h
  · exact hx p v h
  · rename_i h1
    rw [List.getElem?_append] at h
    split at h
    · have := hy _ v h
      rwa [show x.length + (p - x.length) = p by omega] at this
    · have := hz _ v h
      rename_i h2
      rwa [show x.length + (y.length + (p - x.length - y.length)) = p by omega] at this
theorem own2 {g : Gh} {w : World} {o : Option Owner} {v : Value} {f : F} {b : Nat} (h : V g w o v (.sl (fC f) 1 (.own 2))) (hm : g.mark b = 0) : ∃ vb vc vs, v = .slice (some ⟨vb, 0, none⟩) 1 vc ∧ OneF w b vb vc vs ∧ LV g w vs (fC f) := by
  cases h with
  | sl _ vb off _ vc _ _ F hlen hcell hone hx hf =>
    obtain ⟨_, rfl, _, hmk, cur, E, lo, hi, hb, h1, h2, h3⟩ := hf
    obtain ⟨hLV, hcs⟩ := LV.of hcell hone hx
    refine ⟨vb, vc, _, rfl, ⟨fun e => ?_, ?_, hcs, hLV.one, cur, E, lo, hi, hb, ?_⟩, hLV⟩
    · rw [e, hm] at hmk
      have h2 : (0 : Nat) = 2 := hmk
      omega
    · rw [hLV.1]; rfl
    · rcases h2 with h2 | h2
      · exact h2
      · exact absurd h2.2 (by decide)
theorem own2n {g : Gh} {w : World} {o : Option Owner} {v : Value} {f : F} (h : V g w o v (.sl (fC f) 1 (.own 2))) : ∃ vb vc vs, v = .slice (some ⟨vb, 0, none⟩) 1 vc ∧ vs.length = 2 ∧ (∀ j v, vs[j]? = some v → w.cell? ⟨vb, 0 + j, none⟩ = some v) ∧ LV g w vs (fC f) := by
  cases h with
  | sl _ vb off _ vc _ _ F hlen hcell hone hx hf =>
    obtain ⟨_, rfl, _, hmk, cur, E, lo, hi, hb, h1, h2, h3⟩ := hf
    obtain ⟨hLV, hcs⟩ := LV.of hcell hone hx
    exact ⟨vb, vc, _, rfl, by rw [hLV.1]; rfl, hcs, hLV⟩
theorem ins_fC (t : List F) (f : F) (k : Nat) : (t.take k ++ f :: t.drop k).flatMap fC = (t.flatMap fC).take (k * 2) ++ (fC f ++ (t.flatMap fC).drop (k * 2)) := by
  rw [List.flatMap_append, List.flatMap_cons, take_fC, drop_fC]
def KInsX : List SV → List Ob → SV → List Ob → Prop := fun args st r st' => st' = st ∧ ∃ (t : List F) (k : Nat) (f : F), k ≤ t.length ∧ t.length ≤ 268435456 ∧
  (args = [.sl (t.flatMap fC) t.length (.excl 2), .int .i64 (k : Int), .sl (fC f) 1 (.own 2)] ∨ (t = [] ∧ args = [.sl [] 0 (.excl 0), .int .i64 (k : Int), .sl (fC f) 1 (.own 2)])) ∧
  r = .sl ((t.take k ++ f :: t.drop k).flatMap fC) (t.length + 1) (.excl 2)
theorem rIns (hp : plainB Tryd.prog 38 = true) (args : List SV) (st : List Ob) (r : SV) (st' : List Ob) (h : KInsX args st r st') : RealX Tryd.prog 38 args st r st' := by
  obtain ⟨rfl, t, k, f, hk, hn, ha, rfl⟩ := h
  rcases ha with rfl | ⟨rfl, rfl⟩
  · refine ⟨plain_of hp, rfl, 2, _, _, _, rfl, by rw [len_fC, List.length_append, List.length_cons, List.length_take, List.length_drop]; omega, .inl ⟨_, _, 1, rfl, rfl, ?_⟩⟩
    intro g w b cap F vs hnc hc h1 hx hl hm hG hvs
    obtain ⟨hvl, hV⟩ := hvs
    obtain ⟨v1, v2, rfl⟩ : ∃ v1 v2, vs = [v1, v2] := two_of hvl
    obtain ⟨o1, e1⟩ := hV 0 (by simp) (by simp)
    obtain ⟨o2, e2⟩ := hV 1 (by simp) (by simp)
    simp only [List.getElem_cons_zero, List.getElem_cons_succ] at e1 e2
    rw [e1.int_inv]
    obtain ⟨vb, vc, vs, rfl, hOne, hLVv⟩ := own2 e2 hm
    obtain ⟨hLV, hcs⟩ := LV.of hc h1 hx
    have hcl : ((List.range (t.flatMap fC).length).map F).length = t.length * 2 := by rw [List.length_map, List.length_range, len_fC]
    generalize (List.range (t.flatMap fC).length).map F = cs at hLV hcs hcl
    have hcap := gro_cap hG
    unfold maxLen at hcap
    have hres : LV g w (cs.take (k * 2) ++ (vs ++ cs.drop (k * 2))) ((t.take k ++ f :: t.drop k).flatMap fC) := by
      rw [ins_fC]
      exact (hLV.take _).app (hLVv.app (hLV.drop _))
    have htl : (cs.take (k * 2)).length = k * 2 := by rw [List.length_take, hcl]; omega
    have hdl : (cs.drop (k * 2)).length = (t.length - k) * 2 := by rw [List.length_drop, hcl]; omega
    have hvl2 := hOne.len
    have htk : ∀ j v, (cs.take (k * 2))[j]? = some v → j < k * 2 ∧ w.cell? ⟨b, j, none⟩ = some v := by
      intro j v hj
      rw [List.getElem?_take] at hj
      split at hj
      · have := hcs j v hj
        rw [Nat.zero_add] at this
        exact ⟨by omega, this⟩
      · cases hj
    obtain ⟨tB, kB, hsb, hkB⟩ := gro_shape hG
    by_cases hroom : t.length + 1 ≤ cap
    · by_cases hkn : k < t.length
      · have hD := Tryd.insert_shift w b cap t.length k vb vc cs vs hkn hroom (by omega) hcl hcs (fun j hj => gro_some hG (by omega)) (fun j _ => gro_frozen hG _) hLV.one hOne tB kB hsb (by omega)
        refine hD.mono ?_
        rintro e w' ⟨rfl, rfl⟩
        have hF := ((((Far.refl w b).drew).set ((k + 1) * 2) (cs.drop (k * 2))).set (k * 2) vs)
        have hG2 := gro_set (gro_set (gro_drew hG) ((k + 1) * 2) (cs.drop (k * 2))) (k * 2) vs
        refine ⟨b, cap, _, rfl, hroom, ⟨hF.os, hF.tape, hF.output, hF.size⟩, hF.heap, .inl rfl, hG2, hres.fin (cells3 ?_ ?_ ?_)⟩
        · intro j v hj
          obtain ⟨hj2, hj⟩ := htk j v hj
          rw [World.cell?_setCells_out _ _ _ _ _ (fun _ _ => by left; show j < _; omega), World.cell?_setCells_out _ _ _ _ _ (fun _ _ => by left; show j < _; omega)]
          exact hj
        · intro j v hj
          obtain ⟨hjl, rfl⟩ := List.getElem?_eq_some_iff.1 hj
          rw [htl]
          exact World.cell?_setCells_in b vs (k * 2) _ (fun j hj => gro_some (gro_set (gro_drew hG) _ _) (by omega)) j hjl
        · intro j v hj
          obtain ⟨hjl, rfl⟩ := List.getElem?_eq_some_iff.1 hj
          rw [htl, World.cell?_setCells_out _ _ _ _ _ (fun _ _ => by right; show _ ≤ k * 2 + (vs.length + j); omega), show k * 2 + (vs.length + j) = (k + 1) * 2 + j by omega]
          exact World.cell?_setCells_in b _ ((k + 1) * 2) _ (fun j hj => gro_some (gro_drew hG) (by omega)) j hjl
      · obtain rfl : k = t.length := by omega
        have hD := Tryd.insert_end_room w b cap t.length vb vc vs hroom (by omega) (fun j hj => gro_some hG (by omega)) (fun j _ => gro_frozen hG _) hOne
        refine hD.mono ?_
        rintro e w' ⟨rfl, rfl⟩
        have hF := ((Far.refl w b).set (t.length * 2) vs)
        have hG2 := gro_set hG (t.length * 2) vs
        refine ⟨b, cap, _, rfl, hroom, ⟨hF.os, hF.tape, hF.output, hF.size⟩, hF.heap, .inl rfl, hG2, hres.fin (cells3 ?_ ?_ ?_)⟩
        · intro j v hj
          obtain ⟨hj2, hj⟩ := htk j v hj
          rw [World.cell?_setCells_out _ _ _ _ _ (fun _ _ => by left; show j < _; omega)]
          exact hj
        · intro j v hj
          obtain ⟨hjl, rfl⟩ := List.getElem?_eq_some_iff.1 hj
          rw [htl]
          exact World.cell?_setCells_in b vs (t.length * 2) _ (fun j hj => gro_some hG (by omega)) j hjl
        · intro j v hj
          obtain ⟨hjl, rfl⟩ := List.getElem?_eq_some_iff.1 hj
          omega
    · have hge := grownCap_ge w (t.length + 1) cap 33
      have hle := grownCap_le_maxLen w (t.length + 1) cap 33 (by unfold maxLen; omega)
      by_cases hkn : k < t.length
      · have hD := Tryd.insert_grow w b cap t.length k vb vc cs vs hkn hnc (by omega) (by omega) hcl hcs hLV.one hvl2 hOne.cell hOne.one
        refine hD.mono ?_
        rintro e w' ⟨rfl, rfl⟩
        generalize grownCap w (t.length + 1) cap 33 = G at *
        obtain ⟨ROW, hROW⟩ : ∃ ROW : Array Value, ROW = (cs.take (k * 2)).toArray ++ Builtin.zeroCells zF.cells (t.length + 1 - k) ++ Builtin.zeroCells zF.cells (G - (t.length + 1)) := ⟨_, rfl⟩
        rw [← hROW]
        have hRl : ROW.size = G * 2 := by
          rw [hROW]
          simp [Builtin.zeroCells, Value.cells, hcl]
          omega
        have hF := (((((Far.alloc w (.cells ROW 33) w.heap.size).drew).set (k * 2) vs).drew).set ((k + 1) * 2) (cs.drop (k * 2)))
        have hG0 := gro_drew (gro_new w ROW 33 G (by omega) hle)
        have hG1 := gro_drew (gro_set hG0 (k * 2) vs)
        have hG2 := gro_set hG1 ((k + 1) * 2) (cs.drop (k * 2))
        refine ⟨w.heap.size, G, _, rfl, hge, ⟨hF.os, hF.tape, hF.output, hF.size⟩, fun j hj _ => hF.heap j hj (by omega), .inr (Nat.le_refl _), hG2, hres.fin (cells3 ?_ ?_ ?_)⟩
        · intro j v hj
          obtain ⟨hj2, _⟩ := htk j v hj
          rw [World.cell?_setCells_out _ _ _ _ _ (fun _ _ => by left; show j < _; omega)]
          show (World.setCells _ _ _ _).cell? _ = _
          rw [World.cell?_setCells_out _ _ _ _ _ (fun _ _ => by left; show j < _; omega)]
          show (World.alloc _ _).cell? _ = _
          rw [World.cell?_alloc_at _ _ _ _ rfl, hROW, Array.append_assoc, Array.getElem?_append_left (by simp [hcl]; omega)]
          simpa using hj
        · intro j v hj
          obtain ⟨hjl, rfl⟩ := List.getElem?_eq_some_iff.1 hj
          rw [htl, World.cell?_setCells_out _ _ _ _ _ (fun _ _ => by left; show k * 2 + j < _; omega)]
          exact World.cell?_setCells_in w.heap.size vs (k * 2) _ (fun j hj => gro_some hG0 (by omega)) j hjl
        · intro j v hj
          obtain ⟨hjl, rfl⟩ := List.getElem?_eq_some_iff.1 hj
          rw [htl, show k * 2 + (vs.length + j) = (k + 1) * 2 + j by omega]
          exact World.cell?_setCells_in w.heap.size _ ((k + 1) * 2) _ (fun j hj => gro_some hG1 (by omega)) j hjl
      · obtain rfl : k = t.length := by omega
        have hD := Tryd.insert_end_grow w (some ⟨b, 0, none⟩) cap t.length vb vc cs vs hnc (by omega) (by omega) hcl (fun h => by cases h) (fun a ha j v hj => by cases ha; rw [Addr.add_lit]; exact hcs j v hj) hvl2 hOne.cell hOne.one
        refine hD.mono ?_
        rintro e w' ⟨rfl, rfl⟩
        generalize grownCap w (t.length + 1) cap 33 = G at *
        obtain ⟨ROW, hROW⟩ : ∃ ROW : Array Value, ROW = (cs ++ vs).toArray ++ Builtin.zeroCells zF.cells (G - (t.length + 1)) := ⟨_, rfl⟩
        rw [← hROW]
        have hRl : ROW.size = G * 2 := by
          rw [hROW]
          simp [Builtin.zeroCells, Value.cells, hcl, hvl2]
          omega
        have hF := Far.alloc w.drew (.cells ROW 33) w.heap.size
        have hG2 := gro_new w.drew ROW 33 G (by omega) hle
        refine ⟨w.heap.size, G, _, rfl, hge, ⟨hF.os, hF.tape, hF.output, hF.size⟩, fun j hj _ => hF.heap j hj (by omega), .inr (Nat.le_refl _), hG2, hres.fin ?_⟩
        intro p v hp
        rw [show (w.drew.alloc (.cells ROW 33)).cell? ⟨w.heap.size, 0 + p, none⟩ = ROW[0 + p]? from World.cell?_alloc_at (w := w.drew) ROW _ _ _ rfl, hROW, Nat.zero_add]
        have e : cs.take (t.length * 2) ++ (vs ++ cs.drop (t.length * 2)) = cs ++ vs := by
          rw [List.take_of_length_le (by omega), List.drop_of_length_le (by omega), List.append_nil]
        rw [e] at hp
        rw [Array.getElem?_append_left (by have := (List.getElem?_eq_some_iff.1 hp).1; simpa using this)]
        simpa using hp
  · refine ⟨plain_of hp, rfl, 2, _, _, _, rfl, by rw [len_fC, List.length_append, List.length_cons, List.length_take, List.length_drop]; omega, .inr ⟨rfl, ?_⟩⟩
    intro g w vs hvs
    obtain ⟨hvl, hV⟩ := hvs
    obtain ⟨v1, v2, rfl⟩ : ∃ v1 v2, vs = [v1, v2] := two_of hvl
    obtain ⟨o1, e1⟩ := hV 0 (by simp) (by simp)
    obtain ⟨o2, e2⟩ := hV 1 (by simp) (by simp)
    simp only [List.getElem_cons_zero, List.getElem_cons_succ] at e1 e2
    rw [e1.int_inv]
    obtain ⟨vb, vc, vs, rfl, hvl2, hvc, hLVv⟩ := own2n e2
    obtain rfl : k = 0 := by simpa using hk
    have hge := grownCap_ge w 1 0 33
    have hle := grownCap_le_maxLen w 1 0 33 (by unfold maxLen; omega)
    have hD := Tryd.insert_end_grow w none 0 0 vb vc [] vs (by omega) (by omega) (by omega) rfl (fun _ => ⟨rfl, rfl⟩) (fun a ha => by cases ha) hvl2 hvc hLVv.one
    refine hD.mono ?_
    rintro e w' ⟨rfl, rfl⟩
    rw [show ([] ++ vs : List Value) = vs from rfl, show (0 + 1 : Nat) = 1 from rfl]
    generalize grownCap w 1 0 33 = G at *
    obtain ⟨ROW, hROW⟩ : ∃ ROW : Array Value, ROW = vs.toArray ++ Builtin.zeroCells zF.cells (G - 1) := ⟨_, rfl⟩
    rw [← hROW]
    have hRl : ROW.size = G * 2 := by
      rw [hROW]
      simp [Builtin.zeroCells, Value.cells, hvl2]
      omega
    have hF := Far.alloc w.drew (.cells ROW 33) w.heap.size
    have hG2 := gro_new w.drew ROW 33 G (by omega) hle
    have hres : LV g w vs ((([] : List F).take 0 ++ f :: ([] : List F).drop 0).flatMap fC) := by
      simpa using hLVv
    refine ⟨w.heap.size, G, _, rfl, hge, ⟨hF.os, hF.tape, hF.output, hF.size⟩, fun j hj => hF.heap j hj (by omega), Nat.le_refl _, hG2, hres.fin ?_⟩
    intro p v hp
    rw [show (w.drew.alloc (.cells ROW 33)).cell? ⟨w.heap.size, 0 + p, none⟩ = ROW[0 + p]? from World.cell?_alloc_at (w := w.drew) ROW _ _ _ rfl, hROW, Nat.zero_add]
    rw [Array.getElem?_append_left (by have := (List.getElem?_eq_some_iff.1 hp).1; simpa using this)]
    simpa using hp
end Go.Sh.F
namespace Go.Sh.F
open Go.PathLaw Go.TreeLaw Go.Proofs
/-- What Drop tells. -/
def dropR (t : List F) (p : List UInt8) : Int × List F := if rightT t = true then (if has t p = true then (0, delP p t) else (3, [])) else (1, [])
def dropV (t : List F) (p : List UInt8) : SV := .tup [if (dropR t p).1 = 0 then .sl ((dropR t p).2.flatMap fC) (dropR t p).2.length (.excl 2) else .nilS, .int .i64 (dropR t p).1]
theorem drop_cases (t : List F) (p : List UInt8) : (rightT t = false ∧ dropR t p = (1, []) ∧ dropV t p = .tup [.nilS, .int .i64 1]) ∨ (rightT t = true ∧ has t p = false ∧ dropR t p = (3, []) ∧ dropV t p = .tup [.nilS, .int .i64 3]) ∨
    (rightT t = true ∧ has t p = true ∧ dropR t p = (0, delP p t) ∧ ∃ h : lowP p t < t.length, delP p t = t.take (lowP p t) ++ t.drop (lowP p t + 1) ∧ dropV t p = .tup [.sl ((t.take (lowP p t) ++ t.drop (lowP p t + 1)).flatMap fC) (t.length - 1) (.excl 2), .int .i64 0]) := by
  unfold dropV dropR
  cases hR : rightT t with
  | false => exact .inl ⟨rfl, rfl, rfl⟩
  | true =>
    cases hh : has t p with
    | false => exact .inr (.inl ⟨rfl, rfl, rfl, rfl⟩)
    | true =>
      obtain ⟨hl, e⟩ := (low_has (right_srt hR)).1 hh
      have e2 := del_low (right_srt hR) hh
      refine .inr (.inr ⟨rfl, rfl, rfl, hl, e2, ?_⟩)
      simp only [if_true, e2]
      rw [List.length_append, List.length_take, List.length_drop, show min (lowP p t) t.length + (t.length - (lowP p t + 1)) = t.length - 1 by omega]
/-- What Put tells. -/
def putR (t : List F) (p d : List UInt8) : Int × List F := if rightT t = true then (if canPut t p d = 0 then (0, insP p d t) else if canPut t p d = 1 then (6, []) else (2, [])) else (1, [])
def putO (t : List F) (p d : List UInt8) (id : Nat) : SV := if (putR t p d).1 = 0 then (if has t p = true then .slo id 0 t.length else .sl ((putR t p d).2.flatMap fC) (putR t p d).2.length (.excl 2)) else .nilS
def putS (t : List F) (p d : List UInt8) (x : List Ob) : List Ob := if (putR t p d).1 = 0 ∧ has t p = true then x else []
theorem put_cases (t : List F) (p d : List UInt8) (id : Nat) (x : List Ob) :
    (rightT t = false ∧ putR t p d = (1, []) ∧ putO t p d id = .nilS ∧ putS t p d x = []) ∨
    (rightT t = true ∧ (rightB p = false ∨ clashT t p = true) ∧ putR t p d = (6, []) ∧ putO t p d id = .nilS ∧ putS t p d x = []) ∨
    (rightT t = true ∧ rightB p = true ∧ clashT t p = false ∧ (600 < d.length ∨ (has t p = false ∧ 16 ≤ t.length)) ∧ putR t p d = (2, []) ∧ putO t p d id = .nilS ∧ putS t p d x = []) ∨
    (rightT t = true ∧ rightB p = true ∧ clashT t p = false ∧ d.length ≤ 600 ∧ has t p = true ∧ putR t p d = (0, insP p d t) ∧ (∃ h : lowP p t < t.length, t[lowP p t].1 = p ∧ insP p d t = t.set (lowP p t) (p, d)) ∧ putO t p d id = .slo id 0 t.length ∧ putS t p d x = x) ∨
    (rightT t = true ∧ rightB p = true ∧ clashT t p = false ∧ d.length ≤ 600 ∧ has t p = false ∧ t.length < 16 ∧ putR t p d = (0, insP p d t) ∧ insP p d t = t.take (lowP p t) ++ (p, d) :: t.drop (lowP p t) ∧ putO t p d id = .sl ((t.take (lowP p t) ++ (p, d) :: t.drop (lowP p t)).flatMap fC) (t.length + 1) (.excl 2) ∧ putS t p d x = []) := by
  unfold putO putS putR
  cases hR : rightT t with
  | false => exact .inl ⟨rfl, rfl, rfl, rfl⟩
  | true =>
  have hs := right_srt hR
  by_cases h1 : rightB p = false ∨ clashT t p = true
  · have e : canPut t p d = 1 := by unfold canPut; rw [if_pos h1]
    rw [e]
    exact .inr (.inl ⟨rfl, h1, rfl, rfl, rfl⟩)
  · have h1a : rightB p = true := by
      cases hp : rightB p with
      | true => rfl
      | false => exact absurd (.inl hp) h1
    have h1b : clashT t p = false := by
      cases hp : clashT t p with
      | false => rfl
      | true => exact absurd (.inr hp) h1
    by_cases h2 : 600 < d.length ∨ (has t p = false ∧ 16 ≤ t.length)
    · have e : canPut t p d = 2 := by unfold canPut; rw [if_neg h1, if_pos h2]
      rw [e]
      exact .inr (.inr (.inl ⟨rfl, h1a, h1b, h2, rfl, rfl, rfl⟩))
    · have e : canPut t p d = 0 := by unfold canPut; rw [if_neg h1, if_neg h2]
      rw [e]
      have h2a : d.length ≤ 600 := by omega
      have ei := ins_low (p := p) (d := d) hs
      cases hh : has t p with
      | true =>
        obtain ⟨hl, e⟩ := (low_has hs).1 hh
        rw [hh, if_pos rfl] at ei
        exact .inr (.inr (.inr (.inl ⟨rfl, h1a, h1b, h2a, rfl, rfl, ⟨hl, e, ei⟩, rfl, rfl⟩)))
      | false =>
        rw [hh] at ei
        simp only [Bool.false_eq_true, if_false] at ei
        refine .inr (.inr (.inr (.inr ⟨rfl, h1a, h1b, h2a, rfl, ?_, rfl, ei, ?_, rfl⟩)))
        · by_cases h16 : t.length < 16
          · exact h16
          · exact absurd (.inr ⟨hh, by omega⟩) h2
        · simp only [if_true, ei, Bool.false_eq_true, if_false]
          have := low_le p t
          rw [List.length_append, List.length_cons, List.length_take, List.length_drop, show min (lowP p t) t.length + (t.length - lowP p t + 1) = t.length + 1 by omega]
def IsApp (v' : SV) (l : List F) : Prop := ∀ (xs : List SV) (n : Nat) (z : List SV) (s : List Ob), xs.length = n * 2 → n ≤ 268435456 → ev s (.app 2 32 z) [.sl xs n (.excl 2), v'] = some (.sl (xs ++ l.flatMap fC) (n + l.length) (.excl 2), [(0, .undef)], s)
theorem isApp_ro {l : List F} (hl : l.length ≤ 268435456) : IsApp (.sl (l.flatMap fC) l.length .ro) l := by
  intro xs n z s hx hn
  rw [app_excl hx (len_fC l) (by omega) (by omega)]
theorem isApp_nil : IsApp .nilS [] := by
  intro xs n z s hx hn
  rw [app_excl_nil hx (by omega) (by omega)]
  simp
theorem rd_app {v : SV} {t : List F} (hv : rdR fC v t) (hl : t.length ≤ 268435456) : IsApp v t := by
  rcases hv with ⟨rfl, rfl⟩ | rfl
  · exact isApp_nil
  · exact isApp_ro hl
theorem cutH {v : SV} {t : List F} (hv : rdR fC v t) (hl : t.length ≤ 268435456) {i : Nat} (hi : i ≤ t.length) : ∃ v', (∀ s, ev s (.slcL 2 false true false) [v, .int .i64 (i : Int)] = some (v', [], s)) ∧ IsApp v' (t.take i) := by
  have hti : (t.take i).length = i := by rw [List.length_take]; omega
  rcases hv with ⟨rfl, rfl⟩ | rfl
  · obtain rfl : i = 0 := by simpa using hi
    exact ⟨.nilS, fun s => rfl, isApp_nil⟩
  · refine ⟨.sl ((t.take i).flatMap fC) (t.take i).length .ro, fun s => ?_, isApp_ro (by omega)⟩
    rw [slcL_hi_ro (by omega) (by omega) (len_fC t), Int.toNat_natCast, take_fC, hti]
theorem cutL {v : SV} {t : List F} (hv : rdR fC v t) (hl : t.length ≤ 268435456) {i : Nat} (hi : i ≤ t.length) : ∃ v', (∀ s, ev s (.slcL 2 true false false) [v, .int .i64 (i : Int)] = some (v', [], s)) ∧ IsApp v' (t.drop i) := by
  have hti : (t.drop i).length = t.length - i := List.length_drop
  rcases hv with ⟨rfl, rfl⟩ | rfl
  · obtain rfl : i = 0 := by simpa using hi
    exact ⟨.nilS, fun s => rfl, isApp_nil⟩
  · refine ⟨.sl ((t.drop i).flatMap fC) (t.drop i).length .ro, fun s => ?_, isApp_ro (by omega)⟩
    rw [slcL_lo_ro (by omega) (by omega) (len_fC t), Int.toNat_natCast, drop_fC, hti, show ((t.length : Int) - (i : Int)).toNat = t.length - i by omega]
theorem rd_F {v : SV} {t : List F} (h : rdR fC v t) (st : List Ob) : RowF st v t := rdR_row h (fC_len t) st
theorem w41 {v : SV} {t : List F} {p : List UInt8} {st : List Ob} (hv : RowF st v t) (hl : t.length ≤ 268435456) : O323 41 [v, .str p] st (.int .i64 (findI p t)) st := (by repeat first | exact Or.inr ⟨rfl, rfl, v, t, p, hv, hl, rfl, rfl⟩ | refine Or.inl ?_)
theorem x20 {v : SV} {t : List F} {st : List Ob} (hv : RowF st v t) (hs : smT t) (ho : okSt st) : O323 20 [v] st (.bool (rightT t)) st := (by repeat first | exact Or.inr ⟨rfl, rfl, v, t, hv, hs, ho, rfl, rfl⟩ | refine Or.inl ?_)
theorem bslE {s : List Ob} : ev s (.bsl 2 0 [.str [], .str []] []) [] = some (.sl [] 0 (.excl 2), [], s) := rfl
theorem bslF {s : List Ob} {p d : List UInt8} : ev s (.bsl 2 1 [.str [], .str []] [0]) [.agg [.str p, .str d]] = some (.sl (fC (p, d)) 1 (.excl 2), [], s) := rfl
theorem bldF {s : List Ob} {p d : List UInt8} : ev s (.bld [.str [], .str []] [(0, 1), (1, 1)]) [.str p, .str d] = some (.agg [.str p, .str d], [], s) := rfl
set_option maxHeartbeats 4000000 in
theorem t15 (v : SV) (t : List F) (p : List UInt8) (st : List Ob) (hv' : rdR fC v t) (hs : smT t) (ho : okSt st) : swpF O323 sf15 [v, .str p] st (fun r st' => r = dropV t p ∧ st' = st) := by
  have hv := rd_F hv' st
  obtain ⟨q1, q2, q3, q4, q6, q7⟩ := RowAt.facts hv
  have q5 := RowAt.lenL hv
  have hbl := hs.1
  simp (maxSteps := 2000000) (disch := first | omega | (simp only [List.length_append, List.length_cons, List.length_nil, List.length_map] <;> omega)) only [sf15, q1, q2, q3, List.set_cons_zero, List.set_cons_succ, flg_int, flg_nilS, swp_seq, swp_reg, seqK_n, evK_some, appK_eq, srun_nil, srun_cons, stepK_call, swpF_eq, sk_mv, sk_give, get_mk, raw_slot, raw_lit, put_some, wb_nil, ev_mv, ev_give, ro_int, ro_nilS, pubs, pubsFrom, List.map_cons, List.map_nil, List.getD_cons_zero, List.set_cons_zero, List.set_cons_succ, List.length_cons, List.length_nil, List.replicate_succ, List.replicate_zero, List.cons_append, List.nil_append, Nat.reduceAdd, Nat.reduceSub, Bool.false_eq_true, ↓reduceIte, Nat.zero_add]
  refine callK_intro (x20 hv hs ho) ?_
  rcases drop_cases t p with ⟨hR, _, e⟩ | ⟨hR, hh, _, e⟩ | ⟨hR, hh, _, hl, _, e⟩
  · rw [hR, e]
    simp (maxSteps := 2000000) (disch := first | omega | (simp only [List.length_append, List.length_cons, List.length_nil, List.length_map] <;> omega)) only [List.set_cons_zero, List.set_cons_succ, flg_int, flg_nilS, swp_seq, swp_reg, swp_ret, swp_cond, seqK_n, seqK_r, condK_t, evK_some, appK_eq, appC_eq, srun_nil, srun_cons, fin_two, sk_give, sk_un, get_mk, raw_slot, raw_lit, put_some, wb_nil, ev_give, ev_not, ro_int, ro_nilS, List.map_cons, List.map_nil, List.getD_cons_zero, List.getD_cons_succ, List.set_cons_zero, List.set_cons_succ, true_and, Bool.false_eq_true, ↓reduceIte, Bool.not_false]
    first | exact ⟨_, .same, rfl, rfl⟩ | exact ⟨_, .same, rfl⟩ | exact ⟨_, .same⟩
  · have k41 := w41 (p := p) hv hs.1
    rw [find_doc p hR, show findR t p = -1 by unfold findR; rw [if_neg (by rintro ⟨_, a⟩; rw [hh] at a; cases a)]] at k41
    rw [hR, e]
    simp (maxSteps := 2000000) (disch := first | omega | (simp only [List.length_append, List.length_cons, List.length_nil, List.length_map] <;> omega)) only [q1, q2, q3, List.set_cons_zero, List.set_cons_succ, exc_str, swp_seq, swp_reg, swp_skip, swp_cond, seqK_n, condK_f, evK_some, appK_eq, appC_eq, srun_nil, srun_cons, stepK_call, sk_mv, sk_un, get_mk, raw_slot, put_some, wb_nil, ev_mv, ev_not, ro_str, got_str, pubs, pubsFrom, List.map_cons, List.map_nil, List.getD_cons_zero, List.getD_cons_succ, List.set_cons_zero, List.set_cons_succ, Bool.false_eq_true, ↓reduceIte, Bool.not_true]
    refine callK_intro k41 ?_
    simp (maxSteps := 2000000) (disch := first | omega | (simp only [List.length_append, List.length_cons, List.length_nil, List.length_map] <;> omega)) only [List.set_cons_zero, List.set_cons_succ, flg_int, flg_nilS, swp_seq, swp_reg, swp_ret, swp_cond, seqK_n, seqK_r, condK_t, evK_some, appK_eq, appC_eq, srun_nil, srun_cons, fin_two, sk_mv, sk_give, sk_bin, get_mk, raw_slot, raw_lit, put_some, wb_nil, ev_mv, ev_give, bin_lss, ro_int, ro_nilS, List.map_cons, List.map_nil, List.getD_cons_zero, List.getD_cons_succ, List.set_cons_zero, List.set_cons_succ, true_and, Bool.false_eq_true, ↓reduceIte, decide_true, Int.reduceLT, Int.reduceNeg]
    first | exact ⟨_, .same, rfl, rfl⟩ | exact ⟨_, .same, rfl⟩ | exact ⟨_, .same⟩
  · have k41 := w41 (p := p) hv hs.1
    rw [find_doc p hR, show findR t p = (lowP p t : Int) by unfold findR; rw [if_pos ⟨hR, hh⟩]] at k41
    rw [hR, e]
    simp (maxSteps := 2000000) (disch := first | omega | (simp only [List.length_append, List.length_cons, List.length_nil, List.length_map] <;> omega)) only [q1, q2, q3, List.set_cons_zero, List.set_cons_succ, exc_str, swp_seq, swp_reg, swp_skip, swp_cond, seqK_n, condK_f, evK_some, appK_eq, appC_eq, srun_nil, srun_cons, stepK_call, sk_mv, sk_un, get_mk, raw_slot, put_some, wb_nil, ev_mv, ev_not, ro_str, got_str, pubs, pubsFrom, List.map_cons, List.map_nil, List.getD_cons_zero, List.getD_cons_succ, List.set_cons_zero, List.set_cons_succ, Bool.false_eq_true, ↓reduceIte, Bool.not_true]
    refine callK_intro k41 ?_
    obtain ⟨v1, c1, a1⟩ := cutH hv' hs.1 (Nat.le_of_lt hl)
    obtain ⟨v2, c2, a2⟩ := cutL hv' hs.1 (i := lowP p t + 1) (by omega)
    have hd : decide ((lowP p t : Int) < 0) = false := by rw [decide_eq_false_iff_not]; omega
    have htk : (t.take (lowP p t)).length = lowP p t := by rw [List.length_take]; omega
    have hdl : (t.drop (lowP p t + 1)).length = t.length - (lowP p t + 1) := List.length_drop
    have b1 := fun z s => a1 [] 0 z s rfl (by omega)
    have b2 := fun z s => a2 ((t.take (lowP p t)).flatMap fC) (lowP p t) z s (by rw [len_fC, htk]) (by omega)
    simp only [List.nil_append, Nat.zero_add, htk] at b1
    have e1 : IntKind.i64.wrap ((lowP p t : Int) + 1) = ((lowP p t + 1 : Nat) : Int) := by rw [wrap_i64 (by omega) (by omega)]; omega
    simp (maxSteps := 2000000) (disch := first | omega | (simp only [List.length_append, List.length_cons, List.length_nil, List.length_map] <;> omega)) only [hd, b1, b2, c1, c2, e1, q1, List.set_cons_zero, List.set_cons_succ, flg_int, flg_excl, swp_seq, swp_reg, swp_skip, swp_ret, swp_cond, seqK_n, condK_f, evK_some, appK_eq, appC_eq, srun_nil, srun_cons, fin_two, sk_mv, sk_give, sk_bin, sk_slcL, sk_bsl, sk_app, get_mk, raw_slot, raw_lit, put_some, wb_nil, wb_cons, ev_mv, ev_give, bin_add, bin_lss, ev_bsl, ro_int, ro_excl, pubs, pubsFrom, List.map_cons, List.map_nil, List.getD_cons_zero, List.getD_cons_succ, List.set_cons_zero, List.set_cons_succ, List.getElem?_cons_zero, List.length_nil, List.replicate_zero, and_true, Bool.false_eq_true, Option.map_some, ↓reduceIte, List.all_nil, List.zip_nil_right, rep, fillV, List.flatten_nil]
    first | exact ⟨_, .same, by rw [List.flatMap_append, hdl, show lowP p t + (t.length - (lowP p t + 1)) = t.length - 1 by omega], rfl⟩ | exact ⟨_, .same, by rw [List.flatMap_append, hdl, show lowP p t + (t.length - (lowP p t + 1)) = t.length - 1 by omega]⟩
def O324 : Orc := O323.add 15 (StC fun st args r => ∃ (v : SV) (t : List F) (p : List UInt8), rdR fC v t ∧ smT t ∧ okSt st ∧ args = [v, .str p] ∧ r = dropV t p)
theorem s324 : Sound Tryd.prog O324 := s323.addS c15 (by kernel_rfl) (by
  rintro args r st ⟨v, t, p, hv, hs, ho, rfl, rfl⟩
  exact ⟨by simp [sf15], t15 v t p st hv hs ho⟩)
end Go.Sh.F
namespace Go.Sh.F
open Go.PathLaw Go.TreeLaw Go.Proofs
theorem w39 {a : List UInt8} (ha : sm a) (s : List Ob) : O324 39 [.str a] s (.bool (rightB a)) s := (by repeat first | exact Or.inr ⟨rfl, rfl, a, ha, rfl, rfl⟩ | refine Or.inl ?_)
theorem w40 {a b : List UInt8} (ha : sm a) (hb : sm b) (s : List Ob) : O324 40 [.str a, .str b] s (.bool (underB a b)) s := (by repeat first | exact Or.inr ⟨rfl, rfl, a, b, ha, hb, rfl, rfl⟩ | refine Or.inl ?_)
theorem y20 {v : SV} {t : List F} {st : List Ob} (hv : RowF st v t) (hs : smT t) (ho : okSt st) : O324 20 [v] st (.bool (rightT t)) st := (by repeat first | exact Or.inr ⟨rfl, rfl, v, t, hv, hs, ho, rfl, rfl⟩ | refine Or.inl ?_)
theorem y41 {v : SV} {t : List F} {p : List UInt8} {st : List Ob} (hv : RowF st v t) (hl : t.length ≤ 268435456) : O324 41 [v, .str p] st (.int .i64 (findI p t)) st := (by repeat first | exact Or.inr ⟨rfl, rfl, v, t, p, hv, hl, rfl, rfl⟩ | refine Or.inl ?_)
theorem clash_at {t : List F} {p : List UInt8} {i : Nat} (h : i < t.length) (hu : underB p t[i].1 = true ∨ underB t[i].1 p = true) : clashT t p = true := by
  unfold clashT
  rw [List.any_eq_true]
  refine ⟨t[i], List.getElem_mem h, ?_⟩
  unfold clashB
  rcases hu with hu | hu <;> simp [hu]
theorem clash_none {t : List F} {p : List UInt8} (h : ∀ j (h : j < t.length), underB p t[j].1 = false ∧ underB t[j].1 p = false) : clashT t p = false := by
  unfold clashT
  rw [List.any_eq_false]
  intro f hf
  obtain ⟨i, hi, rfl⟩ := List.getElem_of_mem hf
  unfold clashB
  simp [h i hi]
theorem set_fC {t : List F} {k : Nat} (h : k < t.length) (p d : List UInt8) (e : t[k].1 = p) : (t.flatMap fC).set (k * 2 + 1) (.str d) = (t.set k (p, d)).flatMap fC := by
  induction t generalizing k with
  | nil => simp at h
  | cons f t ih =>
    cases k with
    | zero =>
      simp only [List.getElem_cons_zero] at e
      subst e
      rfl
    | succ k =>
      rw [List.set_cons_succ, List.flatMap_cons, List.flatMap_cons, ← ih (by simpa using h) (by simpa using e)]
      show (SV.str f.1 :: SV.str f.2 :: t.flatMap fC).set ((k + 1) * 2 + 1) _ = SV.str f.1 :: SV.str f.2 :: _
      rw [show (k + 1) * 2 + 1 = k * 2 + 1 + 1 + 1 by omega, List.set_cons_succ, List.set_cons_succ]
      rfl
theorem errP {s : List Ob} {d : List UInt8} : ev s .lenS [.str d] = some (.int .i64 (d.length : Int), [], s) := rfl
set_option maxHeartbeats 16000000 in
theorem t13 (v : SV) (t : List F) (p d : List UInt8) (st : List Ob) (hv' : rdR fC v t) (hs : smT t) (hp : sm p) (hd' : sm d) (ho : okSt st) :
    swpF O324 sf13 [v, .str p, .str d] st (fun r st' => r = .tup [putO t p d st.length, .int .i64 (putR t p d).1] ∧ st' = st ++ putS t p d [.cells ((insP p d t).flatMap fC)]) := by
  have hv := rd_F hv' st
  have ib := fun i (hi : i < t.length) => RowAt.idxB hv hi .i64
  have f0 := fun i (hi : i < t.length) => RowF.f0 hv hi []
  have fl0 := fun i (hi : i < t.length) (s : List Ob) => RowAt.fld hv (by omega) (i * 2) 0 s
  simp only [List.append_nil, Nat.add_zero] at f0 fl0
  obtain ⟨q1, q2, q3, q4, q6, q7⟩ := RowAt.facts hv
  have q5 := RowAt.lenL hv
  have hbl := hs.1
  have PC := put_cases t p d st.length [.cells ((insP p d t).flatMap fC)]
  simp (maxSteps := 2000000) (disch := first | omega | (simp only [List.length_append, List.length_cons, List.length_nil, List.length_map] <;> omega)) only [sf13, q1, q2, q3, List.set_cons_zero, List.set_cons_succ, flg_int, flg_nilS, swp_seq, swp_reg, seqK_n, evK_some, appK_eq, srun_nil, srun_cons, stepK_call, swpF_eq, sk_mv, sk_give, get_mk, raw_slot, raw_lit, put_some, wb_nil, ev_mv, ev_give, ro_int, ro_nilS, pubs, pubsFrom, List.map_cons, List.map_nil, List.getD_cons_zero, List.set_cons_zero, List.set_cons_succ, List.length_cons, List.length_nil, List.replicate_succ, List.replicate_zero, List.cons_append, List.nil_append, Nat.reduceAdd, Nat.reduceSub, Bool.false_eq_true, ↓reduceIte, Nat.zero_add]
  refine callK_intro (y20 hv hs ho) ?_
  cases hR : rightT t with
  | false =>
    have e : putR t p d = (1, []) ∧ putO t p d st.length = .nilS ∧ putS t p d [.cells ((insP p d t).flatMap fC)] = [] := by
      rcases PC with ⟨_, a⟩ | ⟨a, _⟩ | ⟨a, _⟩ | ⟨a, _⟩ | ⟨a, _⟩
      · exact a
      all_goals (rw [hR] at a; cases a)
    rw [e.1, e.2.1, e.2.2]
    simp (maxSteps := 2000000) (disch := first | omega | (simp only [List.length_append, List.length_cons, List.length_nil, List.length_map] <;> omega)) only [List.set_cons_zero, List.set_cons_succ, flg_int, flg_nilS, swp_seq, swp_reg, swp_ret, swp_cond, seqK_n, seqK_r, condK_t, evK_some, appK_eq, appC_eq, srun_nil, srun_cons, fin_two, sk_give, sk_un, get_mk, raw_slot, raw_lit, put_some, wb_nil, ev_give, ev_not, ro_int, ro_nilS, List.map_cons, List.map_nil, List.getD_cons_zero, List.getD_cons_succ, List.set_cons_zero, List.set_cons_succ, true_and, Bool.false_eq_true, ↓reduceIte, List.append_nil, Bool.not_false]
    first | exact ⟨_, .same, rfl, rfl⟩ | exact ⟨_, .same, rfl⟩ | exact ⟨_, .same⟩
  | true =>
  simp (maxSteps := 2000000) (disch := first | omega | (simp only [List.length_append, List.length_cons, List.length_nil, List.length_map] <;> omega)) only [List.set_cons_zero, List.set_cons_succ, exc_str, swp_seq, swp_reg, swp_skip, swp_cond, seqK_n, condK_f, evK_some, appK_eq, appC_eq, srun_nil, srun_cons, stepK_call, sk_mv, sk_un, get_mk, raw_slot, put_some, wb_nil, ev_mv, ev_not, ro_str, got_str, pubs, pubsFrom, List.map_cons, List.map_nil, List.getD_cons_zero, List.getD_cons_succ, List.set_cons_zero, List.set_cons_succ, Bool.false_eq_true, ↓reduceIte, Bool.not_true]
  refine callK_intro (w39 hp _) ?_
  have e6 : (rightB p = false ∨ clashT t p = true) → putR t p d = (6, []) ∧ putO t p d st.length = .nilS ∧ putS t p d [.cells ((insP p d t).flatMap fC)] = [] := by
    intro h
    rcases PC with ⟨a, _⟩ | ⟨_, _, a⟩ | ⟨_, a, b, _⟩ | ⟨_, a, b, _⟩ | ⟨_, a, b, _⟩
    · rw [hR] at a; cases a
    · exact a
    all_goals (rcases h with h | h; (rw [a] at h; cases h); (rw [b] at h; cases h))
  cases hP : rightB p with
  | false =>
    have e := e6 (.inl hP)
    rw [e.1, e.2.1, e.2.2]
    simp (maxSteps := 2000000) (disch := first | omega | (simp only [List.length_append, List.length_cons, List.length_nil, List.length_map] <;> omega)) only [List.set_cons_zero, List.set_cons_succ, flg_bool, flg_int, flg_nilS, swp_seq, swp_reg, swp_ret, swp_cond, seqK_n, seqK_r, condK_t, evK_some, appK_eq, appC_eq, srun_nil, srun_cons, fin_two, sk_mv, sk_give, sk_un, get_mk, raw_slot, raw_lit, put_some, wb_nil, ev_mv, ev_give, ev_not, ro_int, ro_bool, ro_nilS, List.map_cons, List.map_nil, List.getD_cons_zero, List.getD_cons_succ, List.set_cons_zero, List.set_cons_succ, true_and, Bool.false_eq_true, ↓reduceIte, List.append_nil, Bool.not_false]
    first | exact ⟨_, .same, rfl, rfl⟩ | exact ⟨_, .same, rfl⟩ | exact ⟨_, .same⟩
  | true =>
  simp (maxSteps := 2000000) (disch := first | omega | (simp only [List.length_append, List.length_cons, List.length_nil, List.length_map] <;> omega)) only [List.set_cons_zero, List.set_cons_succ, flg_bool, exc_int, swp_seq, swp_reg, swp_skip, swp_block, swp_cond, seqK_n, condK_f, evK_some, appK_eq, appC_eq, srun_nil, srun_cons, sk_mv, sk_take, sk_give, sk_un, get_mk, raw_slot, raw_lit, put_some, wb_nil, ev_mv, ev_take, ev_give, ev_not, ro_bool, got_int, List.map_cons, List.map_nil, List.getD_cons_zero, List.getD_cons_succ, List.set_cons_zero, List.set_cons_succ, Bool.false_eq_true, ↓reduceIte, Bool.not_true]
  refine swp_lp (fun S => ∃ (i : Nat), i ≤ t.length ∧ (∀ j (h : j < t.length), j < i → underB p t[j].1 = false ∧ underB t[j].1 p = false) ∧ S = ⟨[v, .str p, .str d, .undef, .undef, .undef, .nilS, .int .i64 0, .bool true, .int .i64 i] ++ List.replicate 87 .undef, st⟩)
    (fun S => match S.get 9 with | .int _ k => ((t.length : Int) - k).toNat | _ => 0)
    ⟨[v, .str p, .str d, .undef, .undef, .undef, .nilS, .int .i64 0, .bool true, .int .i64 0] ++ List.replicate 87 .undef, st⟩ ?_ ⟨0, Nat.zero_le _, fun _ _ h => absurd h (Nat.not_lt_zero _), rfl⟩ ?_
  · refine Forget.of ?_
    repeat first | exact fg_e | refine fg_d ?_ | refine fg_k rfl ?_
  rintro S ⟨i, hi, hall, rfl⟩
  by_cases him : i = t.length
  rotate_left
  · have hd : decide ((i : Int) < (t.length : Int)) = true := by rw [decide_eq_true_eq]; omega
    have hil : i < t.length := by omega
    have fin := fin_ltT hil
    have b1 := ib i hil
    have b2 := f0 i hil
    have b3 := fl0 i hil
    simp (maxSteps := 2000000) (disch := first | omega | (simp only [List.length_append, List.length_cons, List.length_nil, List.length_map] <;> omega)) only [hd, b1, b2, b3, q1, q5, List.set_cons_zero, List.set_cons_succ, exc_str, sk_idxB, swp_seq, swp_reg, swp_skip, swp_block, swp_cond, seqK_n, condK_t, evK_some, appK_eq, srun_nil, srun_cons, stepK_call, sk_mv, sk_bin, sk_fld, sk_load, sk_lenL, get_mk, raw_slot, put_some, wb_nil, ev_mv, bin_lss, ro_int, ro_str, got_str, pubs, pubsFrom, List.map_cons, List.map_nil, List.getD_cons_zero, List.getD_cons_succ, List.set_cons_zero, List.set_cons_succ, List.replicate_succ, List.replicate_zero, List.cons_append, List.nil_append, Bool.false_eq_true, ↓reduceIte]
    refine callK_intro (w40 hp (hs.2 _ (List.getElem_mem hil)).1 _) ?_
    cases hu : underB p t[i].1 with
    | true =>
      have e := e6 (.inr (clash_at hil (.inl hu)))
      rw [e.1, e.2.1, e.2.2]
      simp (maxSteps := 2000000) (disch := first | omega | (simp only [List.length_append, List.length_cons, List.length_nil, List.length_map] <;> omega)) only [List.set_cons_zero, List.set_cons_succ, lpK_r, flg_int, flg_nilS, swp_seq, swp_reg, swp_ret, swp_cond, seqK_n, seqK_r, blkK_r, condK_t, evK_some, appK_eq, appC_eq, grd_t, srun_nil, srun_cons, stepK_grd, fin_two, sk_mv, sk_give, sk_pick, get_mk, raw_slot, raw_lit, put_some, wb_nil, ev_mv, ev_give, ev_pick, ro_int, ro_bool, ro_nilS, List.map_cons, List.map_nil, List.getD_cons_zero, List.getD_cons_succ, List.set_cons_zero, List.set_cons_succ, true_and, Bool.false_eq_true, ↓reduceIte, List.append_nil, reduceCtorEq]
      first | exact ⟨_, .same, rfl, rfl⟩ | exact ⟨_, .same, rfl⟩ | exact ⟨_, .same⟩
    | false =>
    simp (maxSteps := 2000000) (disch := first | omega | (simp only [List.length_append, List.length_cons, List.length_nil, List.length_map] <;> omega)) only [b1, b2, b3, q2, q3, List.set_cons_zero, List.set_cons_succ, exc_int, exc_str, sk_idxB, evK_some, appK_eq, appC_eq, grd_t, srun_cons, stepK_call, stepK_grd, sk_mv, sk_take, sk_fld, sk_load, get_mk, raw_slot, put_some, wb_nil, ev_mv, ev_take, ro_bool, got_int, got_str, pubs, pubsFrom, List.map_cons, List.map_nil, List.getD_cons_zero, List.getD_cons_succ, List.set_cons_zero, List.set_cons_succ, Bool.false_eq_true, ↓reduceIte]
    refine callK_intro (w40 (hs.2 _ (List.getElem_mem hil)).1 hp _) ?_
    cases hu2 : underB t[i].1 p with
    | true =>
      have e := e6 (.inr (clash_at hil (.inr hu2)))
      rw [e.1, e.2.1, e.2.2]
      simp (maxSteps := 2000000) (disch := first | omega | (simp only [List.length_append, List.length_cons, List.length_nil, List.length_map] <;> omega)) only [List.set_cons_zero, List.set_cons_succ, lpK_r, flg_int, flg_nilS, swp_seq, swp_reg, swp_ret, swp_cond, seqK_n, seqK_r, blkK_r, condK_t, evK_some, appK_eq, appC_eq, srun_nil, srun_cons, fin_two, sk_give, sk_pick, get_mk, raw_slot, raw_lit, put_some, wb_nil, ev_give, ev_pick, ro_int, ro_bool, ro_nilS, List.map_cons, List.map_nil, List.getD_cons_zero, List.getD_cons_succ, List.set_cons_zero, List.set_cons_succ, true_and, Bool.false_eq_true, ↓reduceIte, List.append_nil]
      first | exact ⟨_, .same, rfl, rfl⟩ | exact ⟨_, .same, rfl⟩ | exact ⟨_, .same⟩
    | false =>
    simp (maxSteps := 2000000) (disch := first | omega | (simp only [List.length_append, List.length_cons, List.length_nil, List.length_map] <;> omega)) only [List.set_cons_zero, List.set_cons_succ, lpK_n, flg_int, swp_reg, swp_skip, swp_cond, seqK_n, blkK_n, condK_f, evK_some, appK_eq, appC_eq, srun_nil, srun_cons, sk_mv, sk_give, sk_pick, sk_bin, get_mk, raw_slot, raw_lit, put_some, wb_nil, ev_mv, ev_give, ev_pick, bin_add, ro_int, ro_bool, List.map_cons, List.map_nil, List.getD_cons_zero, List.getD_cons_succ, List.set_cons_zero, List.set_cons_succ, Bool.false_eq_true, ↓reduceIte, wrap_i64]
    refine ⟨_, ?_, ⟨i + 1, by omega, fun j hj hji => ?_, rfl⟩, by exact fin⟩
    · refine Forget.of ?_
      repeat first | exact fg_e | refine fg_d ?_ | refine fg_k rfl ?_
    · by_cases e : j = i
      · subst e; exact ⟨hu, hu2⟩
      · exact hall j hj (by omega)
  have hcl : clashT t p = false := clash_none fun j hj => hall j hj (by omega)
  have hd : decide ((i : Int) < (t.length : Int)) = false := by rw [decide_eq_false_iff_not]; omega
  simp (maxSteps := 2000000) (disch := first | omega | (simp only [List.length_append, List.length_cons, List.length_nil, List.length_map] <;> omega)) only [hd, q1, q2, q3, q5, List.set_cons_zero, List.set_cons_succ, lpK_e, exc_str, swp_seq, swp_reg, swp_exit, swp_cond, seqK_n, seqK_e, blkK_e, condK_f, evK_some, appK_eq, srun_nil, srun_cons, stepK_call, sk_mv, sk_bin, sk_lenL, get_mk, raw_slot, put_some, wb_nil, ev_mv, bin_lss, ro_int, ro_str, got_str, pubs, pubsFrom, List.map_cons, List.map_nil, List.getD_cons_zero, List.getD_cons_succ, List.set_cons_zero, List.set_cons_succ, List.replicate_succ, List.replicate_zero, List.cons_append, List.nil_append, Bool.false_eq_true, ↓reduceIte]
  refine callK_intro (y41 hv hs.1) ?_
  rw [find_doc p hR]
  have hF : findR t p = if has t p = true then (lowP p t : Int) else -1 := by unfold findR; by_cases h : has t p = true <;> simp [h, hR]
  have e2 : (600 < d.length ∨ (has t p = false ∧ 16 ≤ t.length)) → putR t p d = (2, []) ∧ putO t p d st.length = .nilS ∧ putS t p d [.cells ((insP p d t).flatMap fC)] = [] := by
    intro h
    rcases PC with ⟨a, _⟩ | ⟨_, a, _⟩ | ⟨_, _, _, _, a⟩ | ⟨_, _, _, a, b, _⟩ | ⟨_, _, _, a, b, c, _⟩
    · rw [hR] at a; cases a
    · rw [hP, hcl] at a; rcases a with a | a <;> cases a
    · exact a
    · rw [b] at h; rcases h with h | ⟨h, _⟩
      · omega
      · cases h
    · omega
  have bA := fun z s => rd_app hv' hs.1 [] 0 z s rfl (by omega)
  simp only [List.nil_append, Nat.zero_add] at bA
  rcases bf (decide ((600 : Int) < (d.length : Int))) with h6 | h6
  rotate_left
  · have e := e2 (.inl (by have := of_decide_eq_true h6; omega))
    rw [e.1, e.2.1, e.2.2]
    simp (maxSteps := 2000000) (disch := first | omega | (simp only [List.length_append, List.length_cons, List.length_nil, List.length_map] <;> omega)) only [h6, List.set_cons_zero, List.set_cons_succ, flg_int, flg_nilS, grd_s, swp_seq, swp_reg, swp_ret, swp_cond, seqK_n, seqK_r, condK_t, evK_some, appK_eq, appC_eq, grd_t, srun_nil, srun_cons, stepK_grd, fin_two, sk_mv, sk_give, sk_pick, sk_bin, sk_lenS, get_mk, raw_slot, raw_lit, put_some, wb_nil, ev_mv, ev_give, ev_pick, ev_lenS, bin_gtr, ro_int, ro_bool, ro_str, ro_nilS, List.map_cons, List.map_nil, List.getD_cons_zero, List.getD_cons_succ, List.set_cons_zero, List.set_cons_succ, true_and, Bool.false_eq_true, ↓reduceIte, List.append_nil, reduceCtorEq, gt_iff_lt]
    first | exact ⟨_, .same, rfl, rfl⟩ | exact ⟨_, .same, rfl⟩ | exact ⟨_, .same⟩
  have h6' : d.length ≤ 600 := by have := of_decide_eq_false h6; omega
  cases hh : has t p with
  | true =>
    rw [hh] at hF
    simp only [if_true] at hF
    obtain ⟨hl, ek, ei⟩ := (show ∃ h : lowP p t < t.length, t[lowP p t].1 = p ∧ insP p d t = t.set (lowP p t) (p, d) from by
      rcases PC with ⟨a, _⟩ | ⟨_, a, _⟩ | ⟨_, _, _, a, _⟩ | ⟨_, _, _, _, _, _, a, _⟩ | ⟨_, _, _, _, a, _⟩
      · rw [hR] at a; cases a
      · rw [hP, hcl] at a; rcases a with a | a <;> cases a
      · rw [hh] at a; rcases a with a | ⟨a, _⟩
        · omega
        · cases a
      · exact a
      · rw [hh] at a; cases a)
    have e : putR t p d = (0, insP p d t) ∧ putO t p d st.length = .slo st.length 0 t.length ∧ putS t p d [.cells ((insP p d t).flatMap fC)] = [.cells ((insP p d t).flatMap fC)] := by
      rcases PC with ⟨a, _⟩ | ⟨_, a, _⟩ | ⟨_, _, _, a, _⟩ | ⟨_, _, _, _, _, b, _, a⟩ | ⟨_, _, _, _, a, _⟩
      · rw [hR] at a; cases a
      · rw [hP, hcl] at a; rcases a with a | a <;> cases a
      · rw [hh] at a; rcases a with a | ⟨a, _⟩
        · omega
        · cases a
      · exact ⟨b, a⟩
      · rw [hh] at a; cases a
    rw [e.1, e.2.1, e.2.2, hF, ei]
    have h1 : decide ((lowP p t : Int) < 0) = false := by rw [decide_eq_false_iff_not]; omega
    have h2 : decide ((lowP p t : Int) ≥ 0) = true := by rw [decide_eq_true_eq]; omega
    have h3 : decide ((0 : Int) ≤ (lowP p t : Int)) = true := by rw [decide_eq_true_eq]; omega
    have hsx := set_fC hl p d ek
    have hlt : lowP p t * 2 + 1 < (t.flatMap fC).length := by rw [len_fC]; omega
    simp (maxSteps := 2000000) (disch := first | omega | (simp only [List.length_append, List.length_cons, List.length_nil, List.length_map] <;> omega)) only [h6, h1, h2, bA, hsx, hlt, q1, getA0, setA0, List.set_cons_zero, List.set_cons_succ, Int.toNat_natCast, sk_giveO, ro_slo, flg_slo, ev_giveO_x, flg_int, exc_bool, exc_int, sk_idxB, idxB_O, swp_seq, swp_reg, swp_skip, swp_ret, swp_cond, seqK_n, seqK_r, condK_t, condK_f, evK_some, appK_eq, appC_eq, grd_t, srun_nil, srun_cons, stepK_grd, fin_two, sk_mv, sk_take, sk_give, sk_pick, sk_bin, sk_fld, sk_store, sk_lenS, sk_bsl, sk_app, get_mk, raw_slot, raw_lit, put_some, put_none, wb_nil, wb_cons, ev_mv, ev_take, ev_give, ev_pick, ev_fld, ev_lenS, bin_lss, bin_gtr, bin_geq, ev_bsl, stP_some, ro_int, ro_bool, ro_str, got_int, got_bool, pubs, pubsFrom, List.map_cons, List.map_nil, List.getD_cons_zero, List.getD_cons_succ, List.set_cons_zero, List.set_cons_succ, List.getElem?_cons_zero, List.length_nil, List.replicate_zero, true_and, and_true, Bool.false_eq_true, Option.map_some, ↓reduceIte, List.all_nil, List.zip_nil_right, rep, fillV, List.flatten_nil, Nat.zero_add, st_str, ge_iff_le, gt_iff_lt]
    first | exact ⟨_, .same, rfl, rfl⟩ | exact ⟨_, .same, rfl⟩ | exact ⟨_, .same⟩
  | false =>
    rw [hh] at hF
    simp only [Bool.false_eq_true, if_false] at hF
    rw [hF]
    rcases bf (decide ((16 : Int) ≤ (t.length : Int))) with h16 | h16
    rotate_left
    · have e := e2 (.inr ⟨hh, by have := of_decide_eq_true h16; omega⟩)
      rw [e.1, e.2.1, e.2.2]
      have h1 : decide ((-1 : Int) < 0) = true := rfl
      simp (maxSteps := 2000000) (disch := first | omega | (simp only [List.length_append, List.length_cons, List.length_nil, List.length_map] <;> omega)) only [h6, h16, ge_iff_le, q2, q3, q5, List.set_cons_zero, List.set_cons_succ, flg_int, flg_nilS, exc_bool, exc_int, swp_seq, swp_reg, swp_ret, swp_cond, seqK_n, seqK_r, condK_t, evK_some, appK_eq, appC_eq, grd_t, srun_nil, srun_cons, stepK_grd, fin_two, sk_mv, sk_take, sk_give, sk_pick, sk_bin, sk_lenS, sk_lenL, get_mk, raw_slot, raw_lit, put_some, wb_nil, ev_mv, ev_take, ev_give, ev_pick, ev_lenS, bin_lss, bin_gtr, bin_geq, ro_int, ro_bool, ro_str, ro_nilS, got_int, got_bool, List.map_cons, List.map_nil, List.getD_cons_zero, List.getD_cons_succ, List.set_cons_zero, List.set_cons_succ, true_and, Bool.false_eq_true, ↓reduceIte, List.append_nil, decide_true, ge_iff_le, gt_iff_lt, Int.reduceLT, Int.reduceNeg]
      first | exact ⟨_, .same, rfl, rfl⟩ | exact ⟨_, .same, rfl⟩ | exact ⟨_, .same⟩
    have h16' : t.length < 16 := by have := of_decide_eq_false h16; omega
    have h1 : decide ((-1 : Int) < 0) = true := rfl
    have h2 : decide ((0 : Int) ≤ -1) = false := rfl
    obtain ⟨hE1, hE2, hE3⟩ : putR t p d = (0, insP p d t) ∧ putO t p d st.length = .sl ((t.take (lowP p t) ++ (p, d) :: t.drop (lowP p t)).flatMap fC) (t.length + 1) (.excl 2) ∧ putS t p d [.cells ((insP p d t).flatMap fC)] = [] := by
      rcases PC with ⟨a, _⟩ | ⟨_, a, _⟩ | ⟨_, _, _, a, _⟩ | ⟨_, _, _, _, a, _⟩ | ⟨_, _, _, _, _, _, a, _, b⟩
      · rw [hR] at a; cases a
      · rw [hP, hcl] at a; rcases a with a | a <;> cases a
      · rcases a with a | ⟨_, a⟩ <;> omega
      · rw [hh] at a; cases a
      · exact ⟨a, b⟩
    rw [hE1, hE2, hE3]
    simp (maxSteps := 2000000) (disch := first | omega | (simp only [List.length_append, List.length_cons, List.length_nil, List.length_map] <;> omega)) only [h6, h16, ge_iff_le, bA, q1, q2, q3, q5, List.set_cons_zero, List.set_cons_succ, sk_giveO, ev_giveO_x, flg_int, exc_bool, exc_int, swp_seq, swp_reg, swp_skip, swp_block, swp_cond, seqK_n, condK_f, evK_some, appK_eq, appC_eq, grd_t, srun_nil, srun_cons, stepK_grd, sk_mv, sk_take, sk_give, sk_pick, sk_bin, sk_lenS, sk_lenL, sk_bsl, sk_app, get_mk, raw_slot, raw_lit, put_some, wb_nil, wb_cons, ev_mv, ev_take, ev_give, ev_pick, ev_lenS, bin_lss, bin_gtr, bin_geq, ev_bsl, ro_int, ro_bool, ro_str, got_int, got_bool, pubs, pubsFrom, List.map_cons, List.map_nil, List.getD_cons_zero, List.getD_cons_succ, List.set_cons_zero, List.set_cons_succ, List.getElem?_cons_zero, List.length_nil, List.replicate_zero, and_true, Bool.false_eq_true, Option.map_some, ↓reduceIte, List.all_nil, List.zip_nil_right, rep, fillV, List.flatten_nil, List.append_nil, decide_true, decide_false, ge_iff_le, gt_iff_lt, Int.reduceLE, Int.reduceLT, Int.reduceNeg]
    have hidv : idOk st.length v = true := hv.idOk
    refine swp_lp (fun S => ∃ (i : Nat), i ≤ t.length ∧ (∀ j (h : j < t.length), j < i → lt t[j].1 p = true) ∧ S = ⟨[v, .str p, .str d, .undef, .undef, .undef, .nilS, .int .i64 0, .undef, .undef, .undef, .undef, .int .i64 i] ++ List.replicate 84 .undef, st ++ [.cells (t.flatMap fC)]⟩)
      (fun S => match S.get 12 with | .int _ k => ((t.length : Int) - k).toNat | _ => 0)
      ⟨[v, .str p, .str d, .undef, .undef, .undef, .nilS, .int .i64 0, .undef, .undef, .undef, .undef, .int .i64 0] ++ List.replicate 84 .undef, st ++ [.cells (t.flatMap fC)]⟩ ?_ ⟨0, Nat.zero_le _, fun _ _ h => absurd h (Nat.not_lt_zero _), rfl⟩ ?_
    · refine Forget.of ?_
      repeat first | exact fg_e | refine fg_d ?_ | refine fg_k rfl ?_
    rintro S ⟨k, hk, hlow, rfl⟩
    obtain ⟨v1, c1, a1⟩ := cutH hv' hs.1 hk
    obtain ⟨v2, c2, a2⟩ := cutL hv' hs.1 hk
    have htk : (t.take k).length = k := by rw [List.length_take]; omega
    have hdl : (t.drop k).length = t.length - k := List.length_drop
    have d1 := fun z s => a1 [] 0 z s rfl (by omega)
    simp only [List.nil_append, Nat.zero_add, htk] at d1
    have d2 : ∀ (z : List SV) (s : List Ob), ev s (.app 2 32 z) [.sl ((t.take k).flatMap fC) k (.excl 2), .sl [.str p, .str d] 1 (.excl 2)] = some (.sl ((t.take k).flatMap fC ++ [.str p, .str d]) (k + 1) (.excl 2), [(0, .undef)], s) := fun z s => app_excl (by rw [len_fC, htk]) rfl (by omega) (by omega)
    have d3 := fun z s => a2 ((t.take k).flatMap fC ++ [.str p, .str d]) (k + 1) z s (by rw [List.length_append, len_fC, htk]; show k * 2 + 2 = _; omega) (by omega)
    have fin4 : k = lowP p t → (t.take k).flatMap fC ++ SV.str p :: SV.str d :: (t.drop k).flatMap fC = (t.take (lowP p t)).flatMap fC ++ (fC (p, d) ++ (t.drop (lowP p t)).flatMap fC) ∧ k + 1 + (t.length - k) = t.length + 1 := by
      intro e
      rw [← e]
      exact ⟨rfl, by omega⟩
    have hid : idOks st.length [SV.tup [SV.sl ((t.take k).flatMap fC ++ SV.str p :: SV.str d :: (t.drop k).flatMap fC) (k + 1 + (t.drop k).length) (.excl 2), .int .i64 0]] = true := by
      have h := idOks_fC st.length (t.take k ++ (p, d) :: t.drop k)
      rw [List.flatMap_append, List.flatMap_cons] at h
      have h2 : idOks st.length ((t.take k).flatMap fC ++ SV.str p :: SV.str d :: (t.drop k).flatMap fC) = true := h
      simp only [idOks, idOk, h2, Bool.and_self]
    have hsrt := right_srt hR
    have hll := low_le p t
    by_cases hkt : k < t.length
    · have hd1 : decide ((k : Int) < (t.length : Int)) = true := by rw [decide_eq_true_eq]; omega
      have fin2 := fin_ltT hkt
      have b1 := ib k hkt
      have b2 := RowF.f0 hv hkt [.cells (t.flatMap fC)]
      have b3 := fl0 k hkt
      cases hlt : lt t[k].1 p with
      | true =>
        have hltb : Op.bytesLess t[k].1 p = _ := hlt
        simp (maxSteps := 2000000) (disch := first | omega | (simp only [List.length_append, List.length_cons, List.length_nil, List.length_map] <;> omega)) only [hd1, hltb, b1, b2, b3, q1, q2, q3, q5, List.set_cons_zero, List.set_cons_succ, lpK_n, flg_int, exc_int, exc_str, sk_idxB, swp_seq, swp_reg, swp_skip, swp_block, swp_cond, seqK_n, blkK_n, condK_t, evK_some, appK_eq, grd_t, srun_nil, srun_cons, stepK_grd, sk_mv, sk_take, sk_give, sk_pick, sk_bin, sk_fld, sk_load, sk_lenL, get_mk, raw_slot, raw_lit, put_some, wb_nil, ev_mv, ev_take, ev_give, ev_pick, bin_add, bin_lss, bin_lssS, ro_int, ro_bool, got_int, got_str, List.map_cons, List.map_nil, List.getD_cons_zero, List.getD_cons_succ, List.set_cons_zero, List.set_cons_succ, List.length_cons, List.length_nil, List.replicate_succ, List.replicate_zero, List.cons_append, List.nil_append, Bool.false_eq_true, ↓reduceIte, Nat.zero_add, wrap_i64, List.length_append]
        refine ⟨_, ?_, ⟨k + 1, by omega, fun j hj hji => ?_, rfl⟩, by exact fin2⟩
        · refine Forget.of ?_
          repeat first | exact fg_e | refine fg_d ?_ | refine fg_k rfl ?_
        · by_cases e : j = k
          · subst e; exact hlt
          · exact hlow j hj (by omega)
      | false =>
        have ek : k = lowP p t := by
          by_cases h : k < lowP p t
          · have := low_lt p t k hkt h
            rw [hlt] at this; cases this
          · by_cases h' : lowP p t < k
            · have a1 := hlow _ (by omega) h'
              have a2 := low_ge p t hsrt (lowP p t) (by omega) (Nat.le_refl _)
              rw [a1] at a2; cases a2
            · omega
        have fin4 := fin4 ek
        have hltb : Op.bytesLess t[k].1 p = _ := hlt
        simp (maxSteps := 2000000) (disch := first | omega | (simp only [List.length_append, List.length_cons, List.length_nil, List.length_map] <;> omega)) only [hd1, hltb, b1, b2, b3, c1, c2, d1, d2, d3, q1, q2, q3, q5, cv_agg, cv_str, cell_str, List.append_assoc, List.set_cons_zero, List.set_cons_succ, lpK_e, flg_int, flg_excl, exc_int, exc_str, exc_agg, sk_idxB, swp_seq, swp_reg, swp_ret, swp_exit, swp_cond, seqK_n, seqK_e, blkK_e, condK_f, evK_some, appK_eq, grd_t, srun_nil, srun_cons, stepK_grd, fin_two, sk_mv, sk_take, sk_give, sk_pick, sk_bin, sk_fld, sk_load, sk_lenL, sk_slcL, sk_bsl, sk_bld, sk_app, get_mk, raw_slot, raw_lit, put_some, wb_nil, wb_cons, ev_mv, ev_take, ev_give, ev_pick, bin_lss, bin_lssS, ev_bsl, ev_bld, ro_int, ro_bool, ro_str, ro_excl, ro1_str, got_int, got_str, got_agg, pubs, pubsFrom, List.map_cons, List.map_nil, List.getD_cons_zero, List.getD_cons_succ, List.set_cons_zero, List.set_cons_succ, List.getElem?_cons_zero, List.length_cons, List.length_nil, List.replicate_succ, List.replicate_zero, List.cons_append, List.nil_append, Nat.reduceAdd, Nat.reduceLeDiff, Nat.reduceLT, and_true, Bool.false_eq_true, Option.map_some, ↓reduceIte, List.all_cons, List.all_nil, Bool.and_self, List.zip_cons_cons, List.zip_nil_right, rep, fillV, wrCells, List.flatten_cons, List.flatten_nil, List.append_nil, decide_true, Nat.zero_mul, Nat.zero_add, List.length_append, Nat.le_refl]
        first | exact ⟨_, trim1 ho hid, by simp; exact fin4, rfl⟩ | exact ⟨_, trim1 ho hid, by simp; exact fin4⟩
    · have hd1 : decide ((k : Int) < (t.length : Int)) = false := by rw [decide_eq_false_iff_not]; omega
      have ek : k = lowP p t := by
        by_cases h' : lowP p t < k
        · have a1 := hlow _ (by omega) h'
          have a2 := low_ge p t hsrt (lowP p t) (by omega) (Nat.le_refl _)
          rw [a1] at a2; cases a2
        · omega
      have fin4 := fin4 ek
      simp (maxSteps := 2000000) (disch := first | omega | (simp only [List.length_append, List.length_cons, List.length_nil, List.length_map] <;> omega)) only [hd1, c1, c2, d1, d2, d3, q1, q5, cv_agg, cv_str, cell_str, List.append_assoc, List.set_cons_zero, List.set_cons_succ, lpK_e, flg_int, flg_excl, exc_str, exc_agg, swp_seq, swp_reg, swp_ret, swp_exit, swp_cond, seqK_n, seqK_e, blkK_e, condK_f, evK_some, appK_eq, grd_t, srun_nil, srun_cons, stepK_grd, fin_two, sk_mv, sk_give, sk_pick, sk_bin, sk_lenL, sk_slcL, sk_bsl, sk_bld, sk_app, get_mk, raw_slot, raw_lit, put_some, wb_nil, wb_cons, ev_mv, ev_give, ev_pick, bin_lss, ev_bsl, ev_bld, ro_int, ro_bool, ro_str, ro_excl, ro1_str, got_str, got_agg, pubs, pubsFrom, List.map_cons, List.map_nil, List.getD_cons_zero, List.getD_cons_succ, List.set_cons_zero, List.set_cons_succ, List.getElem?_cons_zero, List.length_cons, List.length_nil, List.replicate_succ, List.replicate_zero, List.cons_append, List.nil_append, Nat.reduceAdd, Nat.reduceLeDiff, Nat.reduceLT, and_true, Bool.false_eq_true, Option.map_some, ↓reduceIte, List.all_cons, List.all_nil, Bool.and_self, List.zip_cons_cons, List.zip_nil_right, rep, fillV, wrCells, List.flatten_cons, List.flatten_nil, List.append_nil, decide_true, Nat.zero_mul, Nat.zero_add, List.length_append, Nat.le_refl]
      first | exact ⟨_, trim1 ho hid, by simp; exact fin4, rfl⟩ | exact ⟨_, trim1 ho hid, by simp; exact fin4⟩
def O325 : Orc := O324.add 13 (fun args st r st' => ∃ (v : SV) (t : List F) (p d : List UInt8), rdR fC v t ∧ smT t ∧ sm p ∧ sm d ∧ okSt st ∧ args = [v, .str p, .str d] ∧ r = .tup [putO t p d st.length, .int .i64 (putR t p d).1] ∧ st' = st ++ putS t p d [.cells ((insP p d t).flatMap fC)])
theorem s325 : Sound Tryd.prog O325 := s324.add c13 (by kernel_rfl) (by
  rintro args st r st' ⟨v, t, p, d, hv, hs, hp, hd, ho, rfl, rfl, rfl⟩
  exact ⟨by simp [sf13], t13 v t p d st hv hs hp hd ho⟩)
end Go.Sh.F
namespace Go.Sh.F
open Go.PathLaw Go.TreeLaw Go.Proofs
def O326 : Orc := O325.add (XB + 42) KDelX
theorem s326 : Sound Tryd.prog O326 := s325.addX (rDel (by kernel_rfl))
def O327 : Orc := O326.add (XB + 38) KInsX
theorem s327 : Sound Tryd.prog O327 := s326.addX (rIns (by kernel_rfl))
theorem z19 {v : SV} {t : List F} {st : List Ob} (hv : RowF st v t) (hs : smT t) (ho : okSt st) : O327 19 [v] st (.bool (rightT t)) st := (by repeat first | exact Or.inr ⟨rfl, rfl, v, t, hv, hs, ho, rfl, rfl⟩ | refine Or.inl ?_)
theorem z34 {v : SV} {t : List F} {p : List UInt8} {st : List Ob} (hv : RowF st v t) (hl : t.length ≤ 268435456) (ho : okSt st) : O327 34 [v, .str p] st (.tup [.int .i64 (binF t p), .bool (isB t p)]) st := (by repeat first | exact Or.inr ⟨rfl, rfl, v, t, p, hv, hl, ho, rfl, rfl⟩ | refine Or.inl ?_)
theorem z35 {a : List UInt8} (ha : sm a) (s : List Ob) : O327 35 [.str a] s (.bool (rightB a)) s := (by repeat first | exact Or.inr ⟨rfl, rfl, a, ha, rfl, rfl⟩ | refine Or.inl ?_)
theorem z36 {v c : SV} {t : List F} {q : F → Bool} {st : List Ob} (hv : RowF st v t) (hs : smT t) (hc : CloOk st c q) (ho : okSt st) : O327 36 [v, c] st (.bool (t.any q)) st := (by repeat first | exact Or.inr ⟨rfl, rfl, v, c, t, q, hv, hs, hc, ho, rfl, rfl⟩ | refine Or.inl ?_)
theorem z37 {v : SV} {t : List F} {st : List Ob} (hv : RowF st v t) (hl : t.length ≤ 268435456) : O327 37 [v] st (cpF v t) st := (by repeat first | exact Or.inr ⟨rfl, rfl, v, t, hv, hl, rfl, rfl⟩ | refine Or.inl ?_)
theorem z42 {t : List F} {i : Nat} {st : List Ob} (hi : i < t.length) (hl : t.length ≤ 268435456) : O327 (XB + 42) [.sl (t.flatMap fC) t.length (.excl 2), .int .i64 (i : Int), .int .i64 ((i + 1 : Nat) : Int)] st (.sl ((t.take i ++ t.drop (i + 1)).flatMap fC) (t.length - 1) (.excl 2)) st := (by repeat first | exact Or.inr ⟨rfl, rfl, t, i, hi, hl, rfl, rfl⟩ | refine Or.inl ?_)
theorem z38 {t : List F} {k : Nat} {p d : List UInt8} {st : List Ob} (hk : k ≤ t.length) (hl : t.length ≤ 268435456) : O327 (XB + 38) [.sl (t.flatMap fC) t.length (.excl 2), .int .i64 (k : Int), .sl [.str p, .str d] 1 (.own 2)] st (.sl ((t.take k ++ (p, d) :: t.drop k).flatMap fC) (t.length + 1) (.excl 2)) st := (by repeat first | exact Or.inr ⟨rfl, rfl, t, k, (p, d), hk, hl, .inl rfl, rfl⟩ | refine Or.inl ?_)
theorem z38n {p d : List UInt8} {st : List Ob} : O327 (XB + 38) [.sl [] 0 (.excl 0), .int .i64 0, .sl [.str p, .str d] 1 (.own 2)] st (.sl [.str p, .str d] 1 (.excl 2)) st := (by repeat first | exact Or.inr ⟨rfl, rfl, [], 0, (p, d), Nat.le_refl _, by simp, .inr ⟨rfl, rfl⟩, rfl⟩ | refine Or.inl ?_)
set_option maxHeartbeats 4000000 in
theorem t14 (v : SV) (t : List F) (p : List UInt8) (st : List Ob) (hv : RowF st v t) (hs : smT t) (ho : okSt st) : swpF O327 sf14 [v, .str p] st (fun r st' => r = dropV t p ∧ st' = st) := by
  obtain ⟨q1, q2, q3, q4, q6, q7⟩ := RowAt.facts hv
  have q5 := RowAt.lenL hv
  have hbl := hs.1
  simp (maxSteps := 2000000) (disch := first | omega | (simp only [List.length_append, List.length_cons, List.length_nil, List.length_map] <;> omega)) only [sf14, q1, q2, q3, List.set_cons_zero, List.set_cons_succ, flg_int, flg_nilS, swp_seq, swp_reg, seqK_n, evK_some, appK_eq, srun_nil, srun_cons, stepK_call, swpF_eq, sk_mv, sk_give, get_mk, raw_slot, raw_lit, put_some, wb_nil, ev_mv, ev_give, ro_int, ro_nilS, pubs, pubsFrom, List.map_cons, List.map_nil, List.getD_cons_zero, List.set_cons_zero, List.set_cons_succ, List.length_cons, List.length_nil, List.replicate_succ, List.replicate_zero, List.cons_append, List.nil_append, Nat.reduceAdd, Nat.reduceSub, Bool.false_eq_true, ↓reduceIte, Nat.zero_add]
  refine callK_intro (z19 hv hs ho) ?_
  rcases drop_cases t p with ⟨hR, _, e⟩ | ⟨hR, hh, _, e⟩ | ⟨hR, hh, _, hl, _, e⟩
  · rw [hR, e]
    simp (maxSteps := 2000000) (disch := first | omega | (simp only [List.length_append, List.length_cons, List.length_nil, List.length_map] <;> omega)) only [List.set_cons_zero, List.set_cons_succ, flg_int, flg_nilS, swp_seq, swp_reg, swp_ret, swp_cond, seqK_n, seqK_r, condK_t, evK_some, appK_eq, appC_eq, srun_nil, srun_cons, fin_two, sk_give, sk_un, get_mk, raw_slot, raw_lit, put_some, wb_nil, ev_give, ev_not, ro_int, ro_nilS, List.map_cons, List.map_nil, List.getD_cons_zero, List.getD_cons_succ, List.set_cons_zero, List.set_cons_succ, true_and, Bool.false_eq_true, ↓reduceIte, Bool.not_false]
    first | exact ⟨_, .same, rfl, rfl⟩ | exact ⟨_, .same, rfl⟩ | exact ⟨_, .same⟩
  · rw [hR, e]
    simp (maxSteps := 2000000) (disch := first | omega | (simp only [List.length_append, List.length_cons, List.length_nil, List.length_map] <;> omega)) only [q1, q2, q3, List.set_cons_zero, List.set_cons_succ, exc_str, swp_seq, swp_reg, swp_skip, swp_cond, seqK_n, condK_f, evK_some, appK_eq, appC_eq, srun_nil, srun_cons, stepK_call, sk_mv, sk_un, get_mk, raw_slot, put_some, wb_nil, ev_mv, ev_not, ro_str, got_str, pubs, pubsFrom, List.map_cons, List.map_nil, List.getD_cons_zero, List.getD_cons_succ, List.set_cons_zero, List.set_cons_succ, Bool.false_eq_true, ↓reduceIte, Bool.not_true]
    refine callK_intro (z34 hv hs.1 ho) ?_
    rw [isB_has (right_srt hR), hh]
    simp (maxSteps := 2000000) (disch := first | omega | (simp only [List.length_append, List.length_cons, List.length_nil, List.length_map] <;> omega)) only [List.set_cons_zero, List.set_cons_succ, flg_bool, flg_int, flg_nilS, swp_seq, swp_reg, swp_ret, swp_cond, seqK_n, seqK_r, condK_t, evK_some, appK_eq, appC_eq, srun_nil, srun_cons, fin_two, sk_mv, sk_give, sk_un, sk_ext, get_mk, raw_slot, raw_lit, put_some, wb_nil, ev_mv, ev_give, ev_not, ev_ext, ro_int, ro_bool, ro_nilS, ro_tup, ro2_int, ro2_bool, List.map_cons, List.map_nil, List.getD_cons_zero, List.getD_cons_succ, List.set_cons_zero, List.set_cons_succ, List.getElem?_cons_zero, List.getElem?_cons_succ, true_and, Bool.false_eq_true, Option.map_some, ↓reduceIte, Bool.not_false]
    first | exact ⟨_, .same, rfl, rfl⟩ | exact ⟨_, .same, rfl⟩ | exact ⟨_, .same⟩
  · rw [hR, e]
    simp (maxSteps := 2000000) (disch := first | omega | (simp only [List.length_append, List.length_cons, List.length_nil, List.length_map] <;> omega)) only [q1, q2, q3, List.set_cons_zero, List.set_cons_succ, exc_str, swp_seq, swp_reg, swp_skip, swp_cond, seqK_n, condK_f, evK_some, appK_eq, appC_eq, srun_nil, srun_cons, stepK_call, sk_mv, sk_un, get_mk, raw_slot, put_some, wb_nil, ev_mv, ev_not, ro_str, got_str, pubs, pubsFrom, List.map_cons, List.map_nil, List.getD_cons_zero, List.getD_cons_succ, List.set_cons_zero, List.set_cons_succ, Bool.false_eq_true, ↓reduceIte, Bool.not_true]
    refine callK_intro (z34 hv hs.1 ho) ?_
    rw [isB_has (right_srt hR), hh, bin_low (right_srt hR)]
    simp (maxSteps := 2000000) (disch := first | omega | (simp only [List.length_append, List.length_cons, List.length_nil, List.length_map] <;> omega)) only [q1, q2, q3, List.set_cons_zero, List.set_cons_succ, flg_bool, flg_int, swp_seq, swp_reg, swp_skip, swp_cond, seqK_n, condK_f, evK_some, appK_eq, appC_eq, srun_nil, srun_cons, stepK_call, sk_mv, sk_give, sk_un, sk_ext, get_mk, raw_slot, put_some, wb_nil, ev_mv, ev_give, ev_not, ev_ext, ro_int, ro_bool, ro_tup, ro2_int, ro2_bool, pubs, pubsFrom, List.map_cons, List.map_nil, List.getD_cons_zero, List.getD_cons_succ, List.set_cons_zero, List.set_cons_succ, List.getElem?_cons_zero, List.getElem?_cons_succ, Bool.false_eq_true, Option.map_some, ↓reduceIte, Bool.not_true]
    refine callK_intro (z37 hv hs.1) ?_
    have hn : v ≠ .nilS := by
      rintro rfl
      obtain ⟨_, ⟨_, h⟩ | ⟨fl, _, h⟩ | ⟨_, _, _, h, _⟩⟩ := hv
      · omega
      · cases h
      · cases h
    rw [cpF_not hn]
    have e1 : IntKind.i64.wrap ((lowP p t : Int) + 1) = ((lowP p t + 1 : Nat) : Int) := by rw [wrap_i64 (by omega) (by omega)]; omega
    simp (maxSteps := 2000000) (disch := first | omega | (simp only [List.length_append, List.length_cons, List.length_nil, List.length_map] <;> omega)) only [e1, stepK_callx, callxK_x, pub_int, List.tail_cons, List.set_cons_zero, List.set_cons_succ, exc_int, evK_some, appK_eq, appC_eq, srun_cons, sk_mv, sk_bin, get_mk, raw_slot, raw_lit, put_some, wb_nil, ev_mv, bin_add, ro_int, pubsFrom, List.map_cons, List.map_nil, List.getD_cons_zero, List.getD_cons_succ, List.set_cons_zero, List.set_cons_succ, List.nil_append, Bool.false_eq_true, ↓reduceIte]
    refine callK_intro (z42 hl hs.1) ?_
    simp (maxSteps := 2000000) (disch := first | omega | (simp only [List.length_append, List.length_cons, List.length_nil, List.length_map] <;> omega)) only [List.set_cons_zero, List.set_cons_succ, flg_int, flg_excl, swp_ret, seqK_n, evK_some, appK_eq, appC_eq, srun_nil, srun_cons, fin_two, sk_give, get_mk, raw_slot, raw_lit, put_some, wb_nil, wb_cons, ev_give, ro_int, ro_excl, List.map_cons, List.map_nil, List.getD_cons_zero, List.getD_cons_succ, List.set_cons_zero, List.set_cons_succ, List.getElem?_cons_zero, true_and, Bool.false_eq_true, ↓reduceIte]
    first | exact ⟨_, .same, rfl, rfl⟩ | exact ⟨_, .same, rfl⟩ | exact ⟨_, .same⟩
def O328 : Orc := O327.add 14 (StC fun st args r => ∃ (v : SV) (t : List F) (p : List UInt8), RowF st v t ∧ smT t ∧ okSt st ∧ args = [v, .str p] ∧ r = dropV t p)
theorem s328 : Sound Tryd.prog O328 := s327.addS c14 (by kernel_rfl) (by
  rintro args r st ⟨v, t, p, hv, hs, ho, rfl, rfl⟩
  exact ⟨by simp [sf14], t14 v t p st hv hs ho⟩)
end Go.Sh.F
namespace Go.Sh.F
open Go.PathLaw Go.TreeLaw Go.Proofs
theorem zz19 {v : SV} {t : List F} {st : List Ob} (hv : RowF st v t) (hs : smT t) (ho : okSt st) : O328 19 [v] st (.bool (rightT t)) st := (by repeat first | exact Or.inr ⟨rfl, rfl, v, t, hv, hs, ho, rfl, rfl⟩ | refine Or.inl ?_)
theorem zz34 {v : SV} {t : List F} {p : List UInt8} {st : List Ob} (hv : RowF st v t) (hl : t.length ≤ 268435456) (ho : okSt st) : O328 34 [v, .str p] st (.tup [.int .i64 (binF t p), .bool (isB t p)]) st := (by repeat first | exact Or.inr ⟨rfl, rfl, v, t, p, hv, hl, ho, rfl, rfl⟩ | refine Or.inl ?_)
theorem zz35 {a : List UInt8} (ha : sm a) (s : List Ob) : O328 35 [.str a] s (.bool (rightB a)) s := (by repeat first | exact Or.inr ⟨rfl, rfl, a, ha, rfl, rfl⟩ | refine Or.inl ?_)
theorem zz36 {v c : SV} {t : List F} {q : F → Bool} {st : List Ob} (hv : RowF st v t) (hs : smT t) (hc : CloOk st c q) (ho : okSt st) : O328 36 [v, c] st (.bool (t.any q)) st := (by repeat first | exact Or.inr ⟨rfl, rfl, v, c, t, q, hv, hs, hc, ho, rfl, rfl⟩ | refine Or.inl ?_)
theorem zz37 {v : SV} {t : List F} {st : List Ob} (hv : RowF st v t) (hl : t.length ≤ 268435456) : O328 37 [v] st (cpF v t) st := (by repeat first | exact Or.inr ⟨rfl, rfl, v, t, hv, hl, rfl, rfl⟩ | refine Or.inl ?_)
theorem zz38 {t : List F} {k : Nat} {p d : List UInt8} {st : List Ob} (hk : k ≤ t.length) (hl : t.length ≤ 268435456) : O328 (XB + 38) [.sl (t.flatMap fC) t.length (.excl 2), .int .i64 (k : Int), .sl [.str p, .str d] 1 (.own 2)] st (.sl ((t.take k ++ (p, d) :: t.drop k).flatMap fC) (t.length + 1) (.excl 2)) st := (by repeat first | exact Or.inr ⟨rfl, rfl, t, k, (p, d), hk, hl, .inl rfl, rfl⟩ | refine Or.inl ?_)
theorem zz38n {p d : List UInt8} {st : List Ob} : O328 (XB + 38) [.sl [] 0 (.excl 0), .int .i64 0, .sl [.str p, .str d] 1 (.own 2)] st (.sl [.str p, .str d] 1 (.excl 2)) st := (by repeat first | exact Or.inr ⟨rfl, rfl, [], 0, (p, d), Nat.le_refl _, by simp, .inr ⟨rfl, rfl⟩, rfl⟩ | refine Or.inl ?_)
theorem st_aggO {st l : List Ob} {i n o : Nat} {c xs : List SV} (hl : l[i]? = some (.cells c)) (h1 : xs.map ro1 = xs) (h2 : xs.all isCell = true) (hn : xs.length = n) (hc : o + n ≤ c.length) :
    ev (st ++ l) (.store n true) [.ptr (st.length + i) o, .agg xs] = some (.undef, [], st ++ l.set i (.cells (c.take o ++ xs ++ c.drop (o + n)))) := by
  have e1 : Sh.ro (.agg xs) = .agg xs := by show SV.agg (xs.map ro1) = _; rw [h1]
  have e3 : wrCells c o xs = c.take o ++ xs ++ c.drop (o + n) := by
    rw [wrCells_eq _ _ _ (by omega), hn]
  have e4 : (cellsV (.agg xs)).length = n ∧ o + n ≤ c.length ∧ (cellsV (.agg xs)).all isCell := ⟨hn, by omega, h2⟩
  have e5 : (st ++ l)[st.length + i]? = some (.cells c) := by rw [getA]; exact hl
  have e6 : ∀ y, setOb (st ++ l) (st.length + i) y = st ++ l.set i (.cells y) := fun y => setA
  show (match (st ++ l)[st.length + i]? with | some (.cells l) => _ | _ => none) = _
  rw [e5]
  simp only [flg, Bool.false_eq_true, if_false, e1]
  rw [if_pos e4]
  simp only [cellsV, e3, e6]
theorem setF {t : List F} {k : Nat} (h : k < t.length) (p d : List UInt8) : (t.flatMap fC).take (k * 2) ++ [.str p, .str d] ++ (t.flatMap fC).drop (k * 2 + 2) = (t.set k (p, d)).flatMap fC := by
  rw [List.set_eq_take_append_cons_drop, if_pos h, List.flatMap_append, List.flatMap_cons, take_fC, show k * 2 + 2 = (k + 1) * 2 by omega, drop_fC, List.append_assoc]
  rfl
set_option maxHeartbeats 16000000 in
theorem t12 (v : SV) (t : List F) (p d : List UInt8) (st : List Ob) (hv : RowF st v t) (hs : smT t) (hp : sm p) (hd' : sm d) (ho : okSt st) :
    swpF O328 sf12 [v, .str p, .str d] st (fun r st' => r = .tup [putO t p d (st.length + 2), .int .i64 (putR t p d).1] ∧ st' = st ++ putS t p d [.cells [.str p], .cells [.str p, .str d], .cells ((insP p d t).flatMap fC)]) := by
  obtain ⟨q1, q2, q3, q4, q6, q7⟩ := RowAt.facts hv
  have q5 := RowAt.lenL hv
  have hbl := hs.1
  have PC := put_cases t p d (st.length + 2) [.cells [.str p], .cells [.str p, .str d], .cells ((insP p d t).flatMap fC)]
  have hv1 : RowF (st ++ [.cells [.str p]]) v t := hv.mono _
  have ho1 : okSt (st ++ [.cells [.str p]]) := okSt_appL ho rfl
  have hv2 : RowF (st ++ [.cells [.str p], .cells [.str p, .str d]]) v t := hv.mono _
  have ho2 : okSt (st ++ [.cells [.str p], .cells [.str p, .str d]]) := okSt_appL ho rfl
  have kc := zz36 (c := .fn 32 [] [.ptr st.length 0]) (q := fun x => clashB x.1 p) hv1 hs (.inr ⟨p, st.length, rfl, by rw [getA0]; rfl, hp, rfl⟩) ho1
  have sS := st_aggA (st := st) (l := [.cells [.str p], .cells [.str [], .str []]]) (i := 1) (n := 2) (b := true) (xs := [.str p, .str d]) rfl rfl rfl rfl rfl
  simp only [List.set_cons_succ, List.set_cons_zero] at sS
  have hcT : (t.any fun x => clashB x.1 p) = clashT t p := rfl
  simp (maxSteps := 2000000) (disch := first | omega | (simp only [List.length_append, List.length_cons, List.length_nil, List.length_map] <;> omega)) only [sf12, q1, q2, q3, cv_str, cell_str, List.set_cons_zero, List.set_cons_succ, flg_int, flg_nilS, exc_str, swp_seq, swp_reg, seqK_n, evK_some, appK_eq, srun_nil, srun_cons, stepK_call, swpF_eq, sk_mv, sk_give, sk_box, get_mk, raw_slot, raw_lit, put_some, wb_nil, ev_mv, ev_give, ev_box, ro_int, ro_nilS, got_str, pubs, pubsFrom, List.map_cons, List.map_nil, List.getD_cons_zero, List.getD_cons_succ, List.set_cons_zero, List.set_cons_succ, List.length_cons, List.length_nil, List.replicate_succ, List.replicate_zero, List.cons_append, List.nil_append, Nat.reduceAdd, Nat.reduceSub, Bool.false_eq_true, ↓reduceIte, List.all_cons, List.all_nil, Bool.and_self, Nat.zero_add]
  refine callK_intro (zz19 hv1 hs ho1) ?_
  rcases PC with ⟨hR, e1, e2, e3⟩ | ⟨hR, h1, e1, e2, e3⟩ | ⟨hR, h1, h2, h3, e1, e2, e3⟩ | ⟨hR, h1, h2, h3, h4, e1, ⟨hl, ek, ei⟩, e2, e3⟩ | ⟨hR, h1, h2, h3, h4, h5, e1, ei, e2, e3⟩ <;> rw [hR, e1, e2, e3]
  · simp (maxSteps := 2000000) (disch := first | omega | (simp only [List.length_append, List.length_cons, List.length_nil, List.length_map] <;> omega)) only [List.set_cons_zero, List.set_cons_succ, flg_int, flg_nilS, swp_seq, swp_reg, swp_ret, swp_cond, seqK_n, seqK_r, condK_t, evK_some, appK_eq, appC_eq, srun_nil, srun_cons, fin_two, sk_give, sk_un, get_mk, raw_slot, raw_lit, put_some, wb_nil, ev_give, ev_not, ro_int, ro_nilS, List.map_cons, List.map_nil, List.getD_cons_zero, List.getD_cons_succ, List.set_cons_zero, List.set_cons_succ, true_and, Bool.false_eq_true, ↓reduceIte, List.append_nil, Bool.not_false]
    first | exact ⟨_, trim1 ho rfl⟩ | exact ⟨_, trim1 ho rfl, rfl⟩ | exact ⟨_, trim1 ho rfl, rfl, rfl⟩ | exact ⟨_, trim1 ho rfl, by simp, rfl⟩ | exact ⟨_, trim1 ho rfl, by simp⟩
  · simp (maxSteps := 2000000) (disch := first | omega | (simp only [List.length_append, List.length_cons, List.length_nil, List.length_map] <;> omega)) only [q1, q2, q3, sk_mfnS, ev_mfn01, getA0, List.set_cons_zero, List.set_cons_succ, flg_fn, exc_str, swp_seq, swp_reg, swp_skip, swp_cond, seqK_n, condK_f, evK_some, appK_eq, appC_eq, srun_nil, srun_cons, stepK_call, sk_mv, sk_give, sk_un, sk_load, get_mk, raw_slot, put_some, wb_nil, ev_mv, ev_give, ev_not, ev_ldP, ldP_some, ro_str, ro_ptr, ro_fn, got_str, pubs, pubsFrom, List.map_cons, List.map_nil, List.getD_cons_zero, List.getD_cons_succ, List.set_cons_zero, List.set_cons_succ, List.getElem?_cons_zero, Bool.false_eq_true, Option.map_some, ↓reduceIte, List.append_nil, Bool.not_true]
    refine callK_intro (zz34 hv1 hs.1 ho1) ?_
    simp (maxSteps := 2000000) (disch := first | omega | (simp only [List.length_append, List.length_cons, List.length_nil, List.length_map] <;> omega)) only [getA0, List.set_cons_zero, List.set_cons_succ, flg_bool, flg_int, exc_str, swp_seq, swp_reg, swp_block, seqK_n, evK_some, appK_eq, appC_eq, srun_nil, srun_cons, stepK_call, sk_mv, sk_give, sk_load, sk_ext, get_mk, raw_slot, put_some, wb_nil, ev_mv, ev_give, ev_ext, ev_ldP, ldP_some, ro_int, ro_bool, ro_str, ro_tup, ro2_int, ro2_bool, got_str, pubs, pubsFrom, List.map_cons, List.map_nil, List.getD_cons_zero, List.getD_cons_succ, List.set_cons_zero, List.set_cons_succ, List.getElem?_cons_zero, List.getElem?_cons_succ, Bool.false_eq_true, Option.map_some, ↓reduceIte]
    refine callK_intro (zz35 hp _) ?_
    cases hP : rightB p with
    | false =>
      simp (maxSteps := 2000000) (disch := first | omega | (simp only [List.length_append, List.length_cons, List.length_nil, List.length_map] <;> omega)) only [List.set_cons_zero, List.set_cons_succ, flg_bool, flg_int, flg_nilS, swp_seq, swp_reg, swp_ret, swp_cond, seqK_n, seqK_r, blkK_r, condK_t, evK_some, appK_eq, appC_eq, grd_t, srun_nil, srun_cons, stepK_grd, fin_two, sk_mv, sk_give, sk_pick, sk_un, get_mk, raw_slot, raw_lit, put_some, wb_nil, ev_mv, ev_give, ev_pick, ev_not, ro_int, ro_bool, ro_nilS, List.map_cons, List.map_nil, List.getD_cons_zero, List.getD_cons_succ, List.set_cons_zero, List.set_cons_succ, true_and, Bool.false_eq_true, ↓reduceIte, reduceCtorEq, Bool.not_false]
      first | exact ⟨_, trim1 ho rfl⟩ | exact ⟨_, trim1 ho rfl, rfl⟩ | exact ⟨_, trim1 ho rfl, rfl, rfl⟩ | exact ⟨_, trim1 ho rfl, by simp, rfl⟩ | exact ⟨_, trim1 ho rfl, by simp⟩
    | true =>
      have hc : clashT t p = true := by
        rcases h1 with h | h
        · rw [hP] at h; cases h
        · exact h
      simp (maxSteps := 2000000) (disch := first | omega | (simp only [List.length_append, List.length_cons, List.length_nil, List.length_map] <;> omega)) only [q2, q3, List.set_cons_zero, List.set_cons_succ, exc_fn, evK_some, appK_eq, appC_eq, grd_t, srun_cons, stepK_call, stepK_grd, sk_mv, sk_take, sk_un, get_mk, raw_slot, put_some, wb_nil, ev_mv, ev_take, ev_not, ro_bool, got_fn, pubs, pubsFrom, List.map_cons, List.map_nil, List.getD_cons_zero, List.getD_cons_succ, List.set_cons_zero, List.set_cons_succ, Bool.false_eq_true, ↓reduceIte, Bool.not_true]
      refine callK_intro kc ?_
      rw [hcT, hc]
      simp (maxSteps := 2000000) (disch := first | omega | (simp only [List.length_append, List.length_cons, List.length_nil, List.length_map] <;> omega)) only [List.set_cons_zero, List.set_cons_succ, flg_bool, flg_int, flg_nilS, swp_seq, swp_reg, swp_ret, swp_cond, seqK_n, seqK_r, blkK_r, condK_t, evK_some, appK_eq, appC_eq, srun_nil, srun_cons, fin_two, sk_give, sk_pick, get_mk, raw_slot, raw_lit, put_some, wb_nil, ev_give, ev_pick, ro_int, ro_bool, ro_nilS, List.map_cons, List.map_nil, List.getD_cons_zero, List.getD_cons_succ, List.set_cons_zero, List.set_cons_succ, true_and, Bool.false_eq_true, ↓reduceIte]
      first | exact ⟨_, trim1 ho rfl⟩ | exact ⟨_, trim1 ho rfl, rfl⟩ | exact ⟨_, trim1 ho rfl, rfl, rfl⟩ | exact ⟨_, trim1 ho rfl, by simp, rfl⟩ | exact ⟨_, trim1 ho rfl, by simp⟩
  all_goals (simp (maxSteps := 2000000) (disch := first | omega | (simp only [List.length_append, List.length_cons, List.length_nil, List.length_map] <;> omega)) only [q1, q2, q3, sk_mfnS, ev_mfn01, getA0, List.set_cons_zero, List.set_cons_succ, flg_fn, exc_str, swp_seq, swp_reg, swp_skip, swp_cond, seqK_n, condK_f, evK_some, appK_eq, appC_eq, srun_nil, srun_cons, stepK_call, sk_mv, sk_give, sk_un, sk_load, get_mk, raw_slot, put_some, wb_nil, ev_mv, ev_give, ev_not, ev_ldP, ldP_some, ro_str, ro_ptr, ro_fn, got_str, pubs, pubsFrom, List.map_cons, List.map_nil, List.getD_cons_zero, List.getD_cons_succ, List.set_cons_zero, List.set_cons_succ, List.getElem?_cons_zero, Bool.false_eq_true, Option.map_some, ↓reduceIte, List.append_nil, Bool.not_true]; refine callK_intro (zz34 hv1 hs.1 ho1) ?_; rw [isB_has (right_srt hR), bin_low (right_srt hR)]; simp (maxSteps := 2000000) (disch := first | omega | (simp only [List.length_append, List.length_cons, List.length_nil, List.length_map] <;> omega)) only [getA0, List.set_cons_zero, List.set_cons_succ, flg_bool, flg_int, exc_str, swp_seq, swp_reg, swp_block, seqK_n, evK_some, appK_eq, appC_eq, srun_nil, srun_cons, stepK_call, sk_mv, sk_give, sk_load, sk_ext, get_mk, raw_slot, put_some, wb_nil, ev_mv, ev_give, ev_ext, ev_ldP, ldP_some, ro_int, ro_bool, ro_str, ro_tup, ro2_int, ro2_bool, got_str, pubs, pubsFrom, List.map_cons, List.map_nil, List.getD_cons_zero, List.getD_cons_succ, List.set_cons_zero, List.set_cons_succ, List.getElem?_cons_zero, List.getElem?_cons_succ, Bool.false_eq_true, Option.map_some, ↓reduceIte]; refine callK_intro (zz35 hp _) ?_; rw [h1]; simp (maxSteps := 2000000) (disch := first | omega | (simp only [List.length_append, List.length_cons, List.length_nil, List.length_map] <;> omega)) only [q2, q3, List.set_cons_zero, List.set_cons_succ, exc_fn, evK_some, appK_eq, appC_eq, grd_t, srun_cons, stepK_call, stepK_grd, sk_mv, sk_take, sk_un, get_mk, raw_slot, put_some, wb_nil, ev_mv, ev_take, ev_not, ro_bool, got_fn, pubs, pubsFrom, List.map_cons, List.map_nil, List.getD_cons_zero, List.getD_cons_succ, List.set_cons_zero, List.set_cons_succ, Bool.false_eq_true, ↓reduceIte, Bool.not_true]; refine callK_intro kc ?_; rw [hcT, h2])
  · rcases bf (decide ((600 : Int) < (d.length : Int))) with h6 | h6
    rotate_left
    · simp (maxSteps := 2000000) (disch := first | omega | (simp only [List.length_append, List.length_cons, List.length_nil, List.length_map] <;> omega)) only [h6, List.set_cons_zero, List.set_cons_succ, flg_bool, flg_int, flg_nilS, grd_s, swp_seq, swp_reg, swp_ret, swp_cond, seqK_n, seqK_r, blkK_r, condK_t, condK_f, evK_some, appK_eq, appC_eq, grd_t, srun_nil, srun_cons, stepK_grd, fin_two, sk_mv, sk_give, sk_pick, sk_bin, sk_lenS, get_mk, raw_slot, raw_lit, put_some, wb_nil, ev_mv, ev_give, ev_pick, ev_lenS, bin_gtr, ro_int, ro_bool, ro_str, ro_nilS, List.map_cons, List.map_nil, List.getD_cons_zero, List.getD_cons_succ, List.set_cons_zero, List.set_cons_succ, true_and, Bool.false_eq_true, ↓reduceIte, reduceCtorEq, gt_iff_lt]
      first | exact ⟨_, trim1 ho rfl⟩ | exact ⟨_, trim1 ho rfl, rfl⟩ | exact ⟨_, trim1 ho rfl, rfl, rfl⟩ | exact ⟨_, trim1 ho rfl, by simp, rfl⟩ | exact ⟨_, trim1 ho rfl, by simp⟩
    · have h6' : d.length ≤ 600 := by have := of_decide_eq_false h6; omega
      rcases h3 with h3 | ⟨h3, h7⟩
      · omega
      have h16 : decide ((16 : Int) ≤ (t.length : Int)) = true := by rw [decide_eq_true_eq]; omega
      rw [h3]
      simp (maxSteps := 2000000) (disch := first | omega | (simp only [List.length_append, List.length_cons, List.length_nil, List.length_map] <;> omega)) only [h6, h16, ge_iff_le, q2, q3, q5, List.set_cons_zero, List.set_cons_succ, flg_bool, flg_int, flg_nilS, exc_bool, swp_seq, swp_reg, swp_ret, swp_cond, seqK_n, seqK_r, blkK_r, condK_t, condK_f, evK_some, appK_eq, appC_eq, grd_t, srun_nil, srun_cons, stepK_grd, fin_two, sk_mv, sk_take, sk_give, sk_pick, sk_bin, sk_un, sk_lenS, sk_lenL, get_mk, raw_slot, raw_lit, put_some, wb_nil, ev_mv, ev_take, ev_give, ev_pick, ev_not, ev_lenS, bin_gtr, bin_geq, ro_int, ro_bool, ro_str, ro_nilS, got_bool, List.map_cons, List.map_nil, List.getD_cons_zero, List.getD_cons_succ, List.set_cons_zero, List.set_cons_succ, true_and, Bool.false_eq_true, ↓reduceIte, Bool.not_false, ge_iff_le, gt_iff_lt]
      first | exact ⟨_, trim1 ho rfl⟩ | exact ⟨_, trim1 ho rfl, rfl⟩ | exact ⟨_, trim1 ho rfl, rfl, rfl⟩ | exact ⟨_, trim1 ho rfl, by simp, rfl⟩ | exact ⟨_, trim1 ho rfl, by simp⟩
  · have h6 : decide ((600 : Int) < (d.length : Int)) = false := by rw [decide_eq_false_iff_not]; omega
    have hn : v ≠ .nilS := by
      rintro rfl
      obtain ⟨_, ⟨_, h⟩ | ⟨fl, _, h⟩ | ⟨_, _, _, h, _⟩⟩ := hv
      · omega
      · cases h
      · cases h
    rw [h4]
    simp (maxSteps := 2000000) (disch := first | omega | (simp only [List.length_append, List.length_cons, List.length_nil, List.length_map] <;> omega)) only [h6, sS, q1, q2, q3, cv_str, cell_str, getA0, List.append_assoc, List.set_cons_zero, List.set_cons_succ, flg_bool, exc_bool, exc_str, swp_seq, swp_reg, swp_skip, swp_cond, seqK_n, blkK_n, condK_f, evK_some, appK_eq, appC_eq, grd_t, srun_nil, srun_cons, stepK_call, stepK_grd, sk_mv, sk_take, sk_give, sk_pick, sk_bin, sk_un, sk_load, sk_store, sk_lenS, sk_bld, sk_alloc, get_mk, raw_slot, raw_lit, put_some, put_none, wb_nil, ev_mv, ev_take, ev_give, ev_pick, ev_not, ev_lenS, bin_gtr, ev_bld, ev_alloc, ev_ldP, ldP_some, ro_bool, ro_str, got_bool, got_str, pubs, pubsFrom, List.map_cons, List.map_nil, List.getD_cons_zero, List.getD_cons_succ, List.set_cons_zero, List.set_cons_succ, List.getElem?_cons_zero, List.length_cons, List.length_nil, List.cons_append, List.nil_append, Nat.reduceAdd, Nat.reduceLeDiff, and_true, Bool.false_eq_true, Option.map_some, ↓reduceIte, List.all_cons, List.all_nil, Bool.and_self, List.zip_cons_cons, List.zip_nil_right, fillV, wrCells, Nat.zero_add, Bool.not_true, gt_iff_lt, List.length_append, Nat.le_refl]
    refine callK_intro (zz37 hv2 hs.1) ?_
    rw [cpF_not hn]
    have g1 : (0 : Int) ≤ (lowP p t : Int) := by omega
    have g2 : (lowP p t : Int) < (t.length : Int) := by omega
    have sO := st_aggO (st := st) (l := [.cells [.str p], .cells [.str p, .str d], .cells (t.flatMap fC)]) (i := 2) (o := lowP p t * 2) (n := 2) (xs := [.str p, .str d]) rfl rfl rfl rfl (by rw [len_fC]; omega)
    rw [setF hl p d, ← ei] at sO
    simp only [List.set_cons_succ, List.set_cons_zero] at sO
    simp (maxSteps := 2000000) (disch := first | omega | (simp only [List.length_append, List.length_cons, List.length_nil, List.length_map] <;> omega)) only [sO, sk_idxOx, idxO_x, getA, ev_ldA, List.drop_zero, List.take_succ_cons, List.take_zero, List.append_assoc, List.set_cons_zero, List.set_cons_succ, Int.toNat_natCast, ro_slo, flg_slo, apO_some, flg_int, flg_excl, swp_seq, swp_reg, swp_ret, swp_cond, seqK_n, seqK_r, condK_t, evK_some, appK_eq, appC_eq, srun_nil, srun_cons, fin_two, sk_mv, sk_give, sk_load, sk_store, get_mk, raw_slot, raw_lit, put_some, put_none, wb_nil, wb_cons, ev_mv, ev_give, ro_int, ro_bool, ro_excl, ro_agg, ro1_str, List.map_cons, List.map_nil, List.getD_cons_zero, List.getD_cons_succ, List.set_cons_zero, List.set_cons_succ, List.getElem?_cons_zero, List.getElem?_cons_succ, List.length_cons, List.length_nil, List.cons_append, List.nil_append, Nat.reduceAdd, true_and, Bool.false_eq_true, ↓reduceIte, Nat.zero_add, List.length_append, Nat.le_refl]
    first | exact ⟨_, .same, rfl, rfl⟩ | exact ⟨_, .same, rfl⟩ | exact ⟨_, .same⟩
  · have h6 : decide ((600 : Int) < (d.length : Int)) = false := by rw [decide_eq_false_iff_not]; omega
    have h16 : decide ((16 : Int) ≤ (t.length : Int)) = false := by rw [decide_eq_false_iff_not]; omega
    have hll := low_le p t
    rw [h4]
    simp (maxSteps := 2000000) (disch := first | omega | (simp only [List.length_append, List.length_cons, List.length_nil, List.length_map] <;> omega)) only [h6, h16, ge_iff_le, sS, q1, q2, q3, q5, cv_str, cell_str, getA0, List.append_assoc, List.set_cons_zero, List.set_cons_succ, flg_bool, exc_bool, exc_str, swp_seq, swp_reg, swp_skip, swp_cond, seqK_n, blkK_n, condK_f, evK_some, appK_eq, appC_eq, grd_t, srun_nil, srun_cons, stepK_call, stepK_grd, sk_mv, sk_take, sk_give, sk_pick, sk_bin, sk_un, sk_load, sk_store, sk_lenS, sk_lenL, sk_bld, sk_alloc, get_mk, raw_slot, raw_lit, put_some, put_none, wb_nil, ev_mv, ev_take, ev_give, ev_pick, ev_not, ev_lenS, bin_gtr, bin_geq, ev_bld, ev_alloc, ev_ldP, ldP_some, ro_bool, ro_str, got_bool, got_str, pubs, pubsFrom, List.map_cons, List.map_nil, List.getD_cons_zero, List.getD_cons_succ, List.set_cons_zero, List.set_cons_succ, List.getElem?_cons_zero, List.length_cons, List.length_nil, List.cons_append, List.nil_append, Nat.reduceAdd, Nat.reduceLeDiff, and_true, Bool.false_eq_true, Option.map_some, ↓reduceIte, List.all_cons, List.all_nil, Bool.and_self, List.zip_cons_cons, List.zip_nil_right, fillV, wrCells, Nat.zero_add, Bool.not_false, ge_iff_le, gt_iff_lt, List.length_append, Nat.le_refl]
    refine callK_intro (zz37 hv2 hs.1) ?_
    rcases nil_orT v with rfl | hn
    · obtain rfl : t = [] := by
        obtain ⟨_, ⟨_, h⟩ | ⟨fl, _, h⟩ | ⟨_, _, _, h, _⟩⟩ := hv
        · exact List.length_eq_zero_iff.1 h
        · cases h
        · cases h
      show _
      simp (maxSteps := 2000000) (disch := first | omega | (simp only [List.length_append, List.length_cons, List.length_nil, List.length_map] <;> omega)) only [cpF, q1, q4, stepK_callx, callxK_n, pub_int, List.tail_cons, cv_agg, cell_str, getA, ev_ldA, List.drop_zero, List.take_succ_cons, List.take_zero, List.set_cons_zero, List.set_cons_succ, pub_excl2, apO_some, exc_int, exc_agg, exc_excl, swp_seq, swp_reg, swp_skip, swp_cond, seqK_n, condK_f, evK_some, appK_eq, appC_eq, srun_nil, srun_cons, sk_mv, sk_give, sk_load, sk_bsl, get_mk, raw_slot, put_some, wb_nil, ev_mv, ev_give, ev_bsl, ro_int, ro_bool, ro_agg, ro1_str, got_agg, pubs, pubsFrom, List.map_cons, List.map_nil, List.getD_cons_zero, List.getD_cons_succ, List.set_cons_zero, List.set_cons_succ, List.getElem?_cons_zero, List.getElem?_cons_succ, List.length_cons, List.length_nil, List.replicate_succ, List.replicate_zero, List.cons_append, List.nil_append, Nat.reduceAdd, Nat.reduceLT, and_true, Bool.false_eq_true, Option.map_some, ↓reduceIte, List.all_cons, List.all_nil, Bool.and_self, List.zip_cons_cons, List.zip_nil_right, rep, fillV, wrCells, List.flatten_cons, List.flatten_nil, List.append_nil, decide_true, Nat.zero_mul, Nat.zero_add, Int.cast_ofNat_Int, Nat.le_refl]
      refine callK_intro zz38n ?_
      simp (maxSteps := 2000000) (disch := first | omega | (simp only [List.length_append, List.length_cons, List.length_nil, List.length_map] <;> omega)) only [List.set_cons_zero, List.set_cons_succ, flg_int, flg_excl, swp_ret, seqK_n, evK_some, appK_eq, appC_eq, srun_nil, srun_cons, fin_two, sk_give, get_mk, raw_slot, raw_lit, put_some, wb_nil, wb_cons, ev_give, ro_int, ro_excl, List.map_cons, List.map_nil, List.getD_cons_zero, List.getD_cons_succ, List.set_cons_zero, List.set_cons_succ, List.getElem?_cons_zero, List.getElem?_cons_succ, Bool.false_eq_true, ↓reduceIte]
      first | exact ⟨_, trim1 ho rfl⟩ | exact ⟨_, trim1 ho rfl, rfl⟩ | exact ⟨_, trim1 ho rfl, rfl, rfl⟩ | exact ⟨_, trim1 ho rfl, by simp, rfl⟩ | exact ⟨_, trim1 ho rfl, by simp⟩
    · rw [cpF_not hn]
      simp (maxSteps := 2000000) (disch := first | omega | (simp only [List.length_append, List.length_cons, List.length_nil, List.length_map] <;> omega)) only [stepK_callx, callxK_x, pub_int, List.tail_cons, cv_agg, cell_str, getA, ev_ldA, List.drop_zero, List.take_succ_cons, List.take_zero, List.set_cons_zero, List.set_cons_succ, pub_excl2, apO_some, flg_excl, exc_int, exc_agg, exc_excl, swp_seq, swp_reg, swp_skip, swp_cond, seqK_n, condK_f, evK_some, appK_eq, appC_eq, srun_nil, srun_cons, sk_mv, sk_give, sk_load, sk_bsl, get_mk, raw_slot, put_some, wb_nil, wb_cons, ev_mv, ev_give, ev_bsl, ro_int, ro_bool, ro_excl, ro_agg, ro1_str, got_agg, pubs, pubsFrom, List.map_cons, List.map_nil, List.getD_cons_zero, List.getD_cons_succ, List.set_cons_zero, List.set_cons_succ, List.getElem?_cons_zero, List.getElem?_cons_succ, List.length_cons, List.length_nil, List.replicate_succ, List.replicate_zero, List.cons_append, List.nil_append, Nat.reduceAdd, Nat.reduceLT, and_true, Bool.false_eq_true, Option.map_some, ↓reduceIte, List.all_cons, List.all_nil, Bool.and_self, List.zip_cons_cons, List.zip_nil_right, rep, fillV, wrCells, List.flatten_cons, List.flatten_nil, List.append_nil, decide_true, Nat.zero_mul, Nat.zero_add, Nat.le_refl]
      refine callK_intro (zz38 hll hs.1) ?_
      simp (maxSteps := 2000000) (disch := first | omega | (simp only [List.length_append, List.length_cons, List.length_nil, List.length_map] <;> omega)) only [List.set_cons_zero, List.set_cons_succ, flg_int, flg_excl, swp_ret, seqK_n, evK_some, appK_eq, appC_eq, srun_nil, srun_cons, fin_two, sk_give, get_mk, raw_slot, raw_lit, put_some, wb_nil, wb_cons, ev_give, ro_int, ro_excl, List.map_cons, List.map_nil, List.getD_cons_zero, List.getD_cons_succ, List.set_cons_zero, List.set_cons_succ, List.getElem?_cons_zero, List.getElem?_cons_succ, true_and, Bool.false_eq_true, ↓reduceIte]
      have hid : idOks st.length [SV.tup [SV.sl ((t.take (lowP p t) ++ (p, d) :: t.drop (lowP p t)).flatMap fC) (t.length + 1) (.excl 2), .int .i64 0]] = true := by
        simp only [idOks, idOk, idOks_fC, Bool.and_self]
      first | exact ⟨_, trim1 ho hid, rfl, rfl⟩ | exact ⟨_, trim1 ho hid, rfl⟩ | exact ⟨_, trim1 ho hid⟩
def O329 : Orc := O328.add 12 (fun args st r st' => ∃ (v : SV) (t : List F) (p d : List UInt8), RowF st v t ∧ smT t ∧ sm p ∧ sm d ∧ okSt st ∧ args = [v, .str p, .str d] ∧ r = .tup [putO t p d (st.length + 2), .int .i64 (putR t p d).1] ∧ st' = st ++ putS t p d [.cells [.str p], .cells [.str p, .str d], .cells ((insP p d t).flatMap fC)])
theorem s329 : Sound Tryd.prog O329 := (s328.add c12 (by kernel_rfl) (by
  rintro args st r st' ⟨v, t, p, d, hv, hs, hp, hd, ho, rfl, rfl, rfl⟩
  refine ⟨by simp [sf12], ?_⟩
  exact t12 v t p d st hv hs hp hd ho))
end Go.Sh.F
namespace Go.Sh.F
open Go.PathLaw Go.TreeLaw Go.Proofs
theorem n12 {v : SV} {t : List F} {p d : List UInt8} {st : List Ob} (hv : RowF st v t) (hs : smT t) (hp : sm p) (hd : sm d) (ho : okSt st) :
    O329 12 [v, .str p, .str d] st (.tup [putO t p d (st.length + 2), .int .i64 (putR t p d).1]) (st ++ putS t p d [.cells [.str p], .cells [.str p, .str d], .cells ((insP p d t).flatMap fC)]) := (by repeat first | exact Or.inr ⟨rfl, v, t, p, d, hv, hs, hp, hd, ho, rfl, rfl, rfl⟩ | refine Or.inl ?_)
theorem n14 {v : SV} {t : List F} {p : List UInt8} {st : List Ob} (hv : RowF st v t) (hs : smT t) (ho : okSt st) : O329 14 [v, .str p] st (dropV t p) st := (by repeat first | exact Or.inr ⟨rfl, rfl, v, t, p, hv, hs, ho, rfl, rfl⟩ | refine Or.inl ?_)
theorem n15 {v : SV} {t : List F} {p : List UInt8} {st : List Ob} (hv : rdR fC v t) (hs : smT t) (ho : okSt st) : O329 15 [v, .str p] st (dropV t p) st := (by repeat first | exact Or.inr ⟨rfl, rfl, v, t, p, hv, hs, ho, rfl, rfl⟩ | refine Or.inl ?_)
theorem n13 {v : SV} {t : List F} {p d : List UInt8} {st : List Ob} (hv : rdR fC v t) (hs : smT t) (hp : sm p) (hd : sm d) (ho : okSt st) :
    O329 13 [v, .str p, .str d] st (.tup [putO t p d st.length, .int .i64 (putR t p d).1]) (st ++ putS t p d [.cells ((insP p d t).flatMap fC)]) := (by repeat first | exact Or.inr ⟨rfl, v, t, p, d, hv, hs, hp, hd, ho, rfl, rfl, rfl⟩ | refine Or.inl ?_)
theorem n16 {v : SV} {t : List F} {p : List UInt8} {st : List Ob} (hv : RowF st v t) (hs : smT t) (ho : okSt st) : O329 16 [v, .str p] st (getV (getR t p)) st := (by repeat first | exact Or.inr ⟨rfl, rfl, v, t, p, hv, hs, ho, rfl, rfl⟩ | refine Or.inl ?_)
theorem n17 {v : SV} {t : List F} {p : List UInt8} {st : List Ob} (hv : RowF st v t) (hs : smT t) (ho : okSt st) : O329 17 [v, .str p] st (getV (getR t p)) st := (by repeat first | exact Or.inr ⟨rfl, rfl, v, t, p, hv, hs, ho, rfl, rfl⟩ | refine Or.inl ?_)
theorem n18 {v w : SV} {a b : List F} {st : List Ob} (hv : RowF st v a) (hw : RowF st w b) (hl : a.length ≤ 268435456) : O329 18 [v, w] st (.bool (decide (a = b))) st := (by repeat first | exact Or.inr ⟨rfl, rfl, v, w, a, b, hv, hw, hl, rfl, rfl⟩ | refine Or.inl ?_)
theorem n23 {v w : SV} {a b : List F} {st : List Ob} (hv : RowF st v a) (hw : RowF st w b) (hl : a.length ≤ 268435456) : O329 23 [v, w] st (.bool (decide (a = b))) st := (by repeat first | exact Or.inr ⟨rfl, rfl, v, w, a, b, hv, hw, hl, rfl, rfl⟩ | refine Or.inl ?_)
theorem n19 {v : SV} {t : List F} {st : List Ob} (hv : RowF st v t) (hs : smT t) (ho : okSt st) : O329 19 [v] st (.bool (rightT t)) st := (by repeat first | exact Or.inr ⟨rfl, rfl, v, t, hv, hs, ho, rfl, rfl⟩ | refine Or.inl ?_)
theorem n20 {v : SV} {t : List F} {st : List Ob} (hv : RowF st v t) (hs : smT t) (ho : okSt st) : O329 20 [v] st (.bool (rightT t)) st := (by repeat first | exact Or.inr ⟨rfl, rfl, v, t, hv, hs, ho, rfl, rfl⟩ | refine Or.inl ?_)
theorem n21 {v : SV} {t : List F} {p : List UInt8} {st : List Ob} (hv : RowF st v t) (hs : smT t) (ho : okSt st) : O329 21 [v, .str p] st (.int .i64 (findR t p)) st := (by repeat first | exact Or.inr ⟨rfl, rfl, v, t, p, hv, hs, ho, rfl, rfl⟩ | refine Or.inl ?_)
theorem n22 {v : SV} {t : List F} {p : List UInt8} {st : List Ob} (hv : RowF st v t) (hs : smT t) (ho : okSt st) : O329 22 [v, .str p] st (.int .i64 (findR t p)) st := (by repeat first | exact Or.inr ⟨rfl, rfl, v, t, p, hv, hs, ho, rfl, rfl⟩ | refine Or.inl ?_)
theorem n24 {v : SV} {t : List F} {st : List Ob} (hv : RowF st v t) (hl : t.length ≤ 268435456) (hs : ∀ f ∈ t, f.2.length ≤ 268435456) (ho : okSt st) : O329 24 [v] st (.int .i64 (szT t)) st := (by repeat first | exact Or.inr ⟨rfl, rfl, v, t, hv, hl, hs, ho, rfl, rfl⟩ | refine Or.inl ?_)
theorem n25 {v : SV} {t : List F} {st : List Ob} (hv : RowF st v t) (hl : t.length ≤ 268435456) (hs : ∀ f ∈ t, f.2.length ≤ 268435456) (ho : okSt st) : O329 25 [v] st (.int .i64 (szT t)) st := (by repeat first | exact Or.inr ⟨rfl, rfl, v, t, hv, hl, hs, ho, rfl, rfl⟩ | refine Or.inl ?_)
theorem n27 {v : SV} {t : List F} {d : List UInt8} {st : List Ob} (hv : RowF st v t) (hs : smT t) (hd : sm d) (ho : okSt st) : O329 27 [v, .str d] st (inV (inR t d)) st := (by repeat first | exact Or.inr ⟨rfl, rfl, v, t, d, hv, hs, hd, ho, rfl, rfl⟩ | refine Or.inl ?_)
theorem n28 {v : SV} {t : List F} {d : List UInt8} {st : List Ob} (hv : RowF st v t) (hs : smT t) (hd : sm d) (ho : okSt st) : O329 28 [v, .str d] st (inV (inR t d)) st := (by repeat first | exact Or.inr ⟨rfl, rfl, v, t, d, hv, hs, hd, ho, rfl, rfl⟩ | refine Or.inl ?_)
theorem n11 {v : SV} {t : List F} {st : List Ob} (hv : RowF st v t) (hl : t.length ≤ 268435456) : O329 11 [v] st (.bool (fewT t)) st := (by repeat first | exact Or.inr ⟨rfl, rfl, v, t, hv, hl, rfl, rfl⟩ | refine Or.inl ?_)
end Go.Sh.F
namespace Go.Sh.F
open Go.PathLaw Go.TreeLaw Go.Proofs
abbrev tA : List F := [([98], [49])]
abbrev tB : List F := [([97, 47, 120], [50, 50]), ([98], [49])]
abbrev tC : List F := [([97, 47, 120], [50, 50]), ([98], [52])]
abbrev tD : List F := [([98], [52])]
abbrev vA : List SV := [.str [98], .str [49]]
abbrev vB : List SV := [.str [97, 47, 120], .str [50, 50], .str [98], .str [49]]
abbrev vC : List SV := [.str [97, 47, 120], .str [50, 50], .str [98], .str [52]]
abbrev vD : List SV := [.str [98], .str [52]]
theorem pu1 (id : Nat) (x : List Ob) : SV.tup [putO [] [98] [49] id, .int .i64 (putR [] [98] [49]).1] = .tup [.sl vA 1 (.excl 2), .int .i64 0] ∧ putS [] [98] [49] x = [] := ⟨by kernel_rfl, by kernel_rfl⟩
theorem pu2 (id : Nat) (x : List Ob) : SV.tup [putO tA [97, 47, 120] [50, 50] id, .int .i64 (putR tA [97, 47, 120] [50, 50]).1] = .tup [.sl vB 2 (.excl 2), .int .i64 0] ∧ putS tA [97, 47, 120] [50, 50] x = [] := ⟨by kernel_rfl, by kernel_rfl⟩
theorem pu3 (id : Nat) (x : List Ob) : SV.tup [putO tB [97] [51] id, .int .i64 (putR tB [97] [51]).1] = .tup [.nilS, .int .i64 6] ∧ putS tB [97] [51] x = [] := ⟨by kernel_rfl, by kernel_rfl⟩
theorem pu4 (id : Nat) (x : List Ob) : SV.tup [putO tB [66] [51] id, .int .i64 (putR tB [66] [51]).1] = .tup [.nilS, .int .i64 6] ∧ putS tB [66] [51] x = [] := ⟨by kernel_rfl, by kernel_rfl⟩
theorem pu5 (id : Nat) (x : List Ob) : SV.tup [putO tB [98] [52] id, .int .i64 (putR tB [98] [52]).1] = .tup [.slo id 0 2, .int .i64 0] ∧ putS tB [98] [52] x = x ∧ (insP [98] [52] tB).flatMap fC = vC := ⟨by kernel_rfl, by kernel_rfl, by kernel_rfl⟩
theorem pu6 : dropV tC [97, 47, 120] = .tup [.sl vD 1 (.excl 2), .int .i64 0] := by kernel_rfl
theorem pu7 : dropV tD [97, 47, 120] = .tup [.nilS, .int .i64 3] := by kernel_rfl
theorem pu8 : getV (getR tC [98]) = .tup [.str [52], .bool true] := by kernel_rfl
theorem pu9 : inV (inR tB [97]) = .sl [.str [97, 47, 120]] 1 (.excl 1) := by kernel_rfl
theorem pu10 : findR tB [98] = 1 ∧ rightT tB = true ∧ rightT [([98], []), ([97], [])] = false ∧ szT tB = 3 ∧ decide (tB = tB) = true ∧ decide (tB = tC) = false := ⟨by kernel_rfl, by kernel_rfl, by kernel_rfl, by kernel_rfl, by kernel_rfl, by kernel_rfl⟩
end Go.Sh.F
namespace Go.Sh.F
open Go.PathLaw Go.TreeLaw Go.Proofs
theorem rA (st : List Ob) : RowF st (.sl vA 1 .ro) tA := rd_F (.inr rfl) st
theorem rB (st : List Ob) : RowF st (.sl vB 2 .ro) tB := rd_F (.inr rfl) st
theorem rD (st : List Ob) : RowF st (.sl vD 1 .ro) tD := rd_F (.inr rfl) st
theorem rE (st : List Ob) : RowF st (.sl [.str [98], .str [], .str [97], .str []] 2 .ro) [([98], []), ([97], [])] := rd_F (.inr rfl) st
theorem rC (st : List Ob) (a b : Ob) : RowF (st ++ [a, b, .cells vC]) (.slo (st.length + 2) 0 2) tC := ⟨rfl, .inr (.inr ⟨_, 0, vC, rfl, by rw [getA]; rfl, by decide, rfl⟩)⟩
theorem sA : smT tA := by constructor <;> simp [sm]
theorem sB : smT tB := by constructor <;> simp [sm]
theorem sC : smT tC := by constructor <;> simp [sm]
theorem sD : smT tD := by constructor <;> simp [sm]
theorem sE : smT [([98], []), ([97], [])] := by constructor <;> simp [sm]
set_option maxHeartbeats 16000000 in
set_option maxRecDepth 100000 in
theorem t10 (st : List Ob) (ho : okSt st) : swpF O329 sf10 [] st (fun r st' => r = .bool true ∧ st' = st) := by
  have ho3 : okSt (st ++ [.cells [.str [98]], .cells [.str [98], .str [52]], .cells vC]) := okSt_appL ho rfl
  have x1 : (((2 : Nat) : Int) == 2) = true := rfl
  have x2 : (((1 : Nat) : Int) == 1) = true := rfl
  have x3 : ((0 : Int) == 0) = true := rfl
  have x4 : ((6 : Int) == 6) = true := rfl
  have x5 : ((3 : Int) == 3) = true := rfl
  have x6 : ((([52] : List UInt8)) == [52]) = true := rfl
  have x7 : ((([97, 47, 120] : List UInt8)) == [97, 47, 120]) = true := rfl
  have x8 : ((1 : Int) == 1) = true := rfl
  have y1 : ∀ s, ev s (.fld 0) [.elv vB 0] = some (.elv vB 0, [], s) := fun s => rfl
  have y2 : ∀ s, ev s (.load 1 false) [.elv vB 0] = some (.str [97, 47, 120], [], s) := fun s => rfl
  have y3 : ∀ s, ev s (.load 1 false) [.elv [.str [97, 47, 120]] 0] = some (.str [97, 47, 120], [], s) := fun s => rfl
  have y4 : ∀ s, ev s (.bsl 2 2 [.str [], .str []] [0, 1]) [.agg [.str [98], .str []], .agg [.str [97], .str []]] = some (.sl [.str [98], .str [], .str [97], .str []] 2 (.excl 2), [], s) := fun s => rfl
  have y5 : ∀ s, ev s (.bld [.str [], .str []] [(0, 1)]) [.str [98]] = some (.agg [.str [98], .str []], [], s) := fun s => rfl
  have y6 : ∀ s, ev s (.bld [.str [], .str []] [(0, 1)]) [.str [97]] = some (.agg [.str [97], .str []], [], s) := fun s => rfl
  simp (maxSteps := 2000000) (disch := first | omega | (simp only [List.length_append, List.length_cons, List.length_nil, List.length_map] <;> omega)) only [sf10, List.set_cons_zero, flg_bool, exc_str, exc_nilS, swp_seq, swp_reg, seqK_n, evK_some, appK_eq, srun_nil, srun_cons, stepK_call, swpF_eq, sk_give, raw_lit, put_some, wb_nil, ev_give, ro_bool, got_str, got_nilS, pubs, pubsFrom, List.map_cons, List.map_nil, List.set_cons_zero, List.length_nil, List.replicate_succ, List.replicate_zero, List.nil_append, Nat.reduceSub, Bool.false_eq_true, ↓reduceIte]
  refine callK_intro (n12 (t := []) RowAt.nil ⟨by simp, by simp⟩ (by simp [sm]) (by simp [sm]) ho) ?_
  rw [(pu1 _ []).1, (pu1 0 _).2]
  simp (maxSteps := 2000000) (disch := first | omega | (simp only [List.length_append, List.length_cons, List.length_nil, List.length_map] <;> omega)) only [List.append_nil, List.set_cons_zero, List.set_cons_succ, pub_excl2, flg_int, flg_excl, exc_str, exc_excl, swp_seq, swp_reg, seqK_n, evK_some, appK_eq, appC_eq, srun_nil, srun_cons, stepK_call, sk_mv, sk_give, sk_ext, get_mk, raw_slot, raw_lit, put_some, wb_nil, wb_cons, ev_mv, ev_give, ev_ext, ro_int, ro_excl, ro_tup, ro2_int, got_excl, got_str, pubs, pubsFrom, List.map_cons, List.map_nil, List.getD_cons_zero, List.getD_cons_succ, List.set_cons_zero, List.set_cons_succ, List.getElem?_cons_zero, List.getElem?_cons_succ, Bool.false_eq_true, Option.map_some, ↓reduceIte, List.append_nil]
  refine callK_intro (n12 (rA _) sA (by simp [sm]) (by simp [sm]) ho) ?_
  rw [(pu2 _ []).1, (pu2 0 _).2]
  simp (maxSteps := 2000000) (disch := first | omega | (simp only [List.length_append, List.length_cons, List.length_nil, List.length_map] <;> omega)) only [List.append_nil, List.set_cons_zero, List.set_cons_succ, pub_excl2, flg_int, flg_excl, exc_str, exc_excl, swp_seq, swp_reg, seqK_n, evK_some, appK_eq, appC_eq, srun_nil, srun_cons, stepK_call, sk_mv, sk_give, sk_ext, get_mk, raw_slot, raw_lit, put_some, wb_nil, wb_cons, ev_mv, ev_give, ev_ext, ro_int, ro_excl, ro_tup, ro2_int, got_excl, got_str, pubs, pubsFrom, List.map_cons, List.map_nil, List.getD_cons_zero, List.getD_cons_succ, List.set_cons_zero, List.set_cons_succ, List.getElem?_cons_zero, List.getElem?_cons_succ, Bool.false_eq_true, Option.map_some, ↓reduceIte, List.append_nil]
  refine callK_intro (n12 (rB _) sB (by simp [sm]) (by simp [sm]) ho) ?_
  rw [(pu3 _ []).1, (pu3 0 _).2]
  simp (maxSteps := 2000000) (disch := first | omega | (simp only [List.length_append, List.length_cons, List.length_nil, List.length_map] <;> omega)) only [List.append_nil, List.set_cons_zero, List.set_cons_succ, flg_int, flg_nilS, exc_str, exc_own, swp_seq, swp_reg, seqK_n, evK_some, appK_eq, appC_eq, srun_nil, srun_cons, stepK_call, sk_mv, sk_give, sk_ext, get_mk, raw_slot, raw_lit, put_some, wb_nil, wb_cons, ev_mv, ev_give, ev_ext, ro_int, ro_nilS, ro_own, ro_tup, ro2_nilS, ro2_int, got_own, got_str, pubs, pubsFrom, List.map_cons, List.map_nil, List.getD_cons_zero, List.getD_cons_succ, List.set_cons_zero, List.set_cons_succ, List.getElem?_cons_zero, List.getElem?_cons_succ, Bool.false_eq_true, Option.map_some, ↓reduceIte, List.append_nil]
  refine callK_intro (n12 (rB _) sB (by simp [sm]) (by simp [sm]) ho) ?_
  rw [(pu4 _ []).1, (pu4 0 _).2]
  simp (maxSteps := 2000000) (disch := first | omega | (simp only [List.length_append, List.length_cons, List.length_nil, List.length_map] <;> omega)) only [List.append_nil, List.set_cons_zero, List.set_cons_succ, flg_int, flg_nilS, exc_str, exc_own, swp_seq, swp_reg, seqK_n, evK_some, appK_eq, appC_eq, srun_nil, srun_cons, stepK_call, sk_mv, sk_give, sk_ext, get_mk, raw_slot, raw_lit, put_some, wb_nil, ev_mv, ev_give, ev_ext, ro_int, ro_nilS, ro_own, ro_tup, ro2_nilS, ro2_int, got_own, got_str, pubs, pubsFrom, List.map_cons, List.map_nil, List.getD_cons_zero, List.getD_cons_succ, List.set_cons_zero, List.set_cons_succ, List.getElem?_cons_zero, List.getElem?_cons_succ, Bool.false_eq_true, Option.map_some, ↓reduceIte, List.append_nil]
  refine callK_intro (n12 (rB _) sB (by simp [sm]) (by simp [sm]) ho) ?_
  rw [(pu5 _ []).1, (pu5 0 _).2.1, (pu5 0 []).2.2]
  simp (maxSteps := 2000000) (disch := first | omega | (simp only [List.length_append, List.length_cons, List.length_nil, List.length_map] <;> omega)) only [List.set_cons_zero, List.set_cons_succ, ro_slo, ro2_slo, got_slo, flg_slo, exc_slo, flg_int, exc_str, swp_seq, swp_reg, seqK_n, evK_some, appK_eq, appC_eq, srun_nil, srun_cons, stepK_call, sk_mv, sk_give, sk_ext, get_mk, raw_slot, raw_lit, put_some, wb_nil, ev_mv, ev_give, ev_ext, ro_int, ro_tup, ro2_int, got_str, pubs, pubsFrom, List.map_cons, List.map_nil, List.getD_cons_zero, List.getD_cons_succ, List.set_cons_zero, List.set_cons_succ, List.getElem?_cons_zero, List.getElem?_cons_succ, Bool.false_eq_true, Option.map_some, ↓reduceIte]
  refine callK_intro (n14 (rC st _ _) sC ho3) ?_
  rw [pu6]
  simp (maxSteps := 2000000) (disch := first | omega | (simp only [List.length_append, List.length_cons, List.length_nil, List.length_map] <;> omega)) only [List.set_cons_zero, List.set_cons_succ, pub_excl2, flg_int, flg_excl, exc_str, exc_excl, swp_seq, swp_reg, seqK_n, evK_some, appK_eq, appC_eq, srun_nil, srun_cons, stepK_call, sk_mv, sk_give, sk_ext, get_mk, raw_slot, raw_lit, put_some, wb_nil, wb_cons, ev_mv, ev_give, ev_ext, ro_int, ro_excl, ro_tup, ro2_int, got_excl, got_str, pubs, pubsFrom, List.map_cons, List.map_nil, List.getD_cons_zero, List.getD_cons_succ, List.set_cons_zero, List.set_cons_succ, List.getElem?_cons_zero, List.getElem?_cons_succ, Bool.false_eq_true, Option.map_some, ↓reduceIte]
  refine callK_intro (n14 (rD _) sD ho3) ?_
  rw [pu7]
  simp (maxSteps := 2000000) (disch := first | omega | (simp only [List.length_append, List.length_cons, List.length_nil, List.length_map] <;> omega)) only [List.set_cons_zero, List.set_cons_succ, ro_slo, got_slo, exc_slo, flg_int, flg_nilS, exc_str, swp_seq, swp_reg, seqK_n, evK_some, appK_eq, appC_eq, srun_nil, srun_cons, stepK_call, sk_mv, sk_give, sk_ext, get_mk, raw_slot, raw_lit, put_some, wb_nil, wb_cons, ev_mv, ev_give, ev_ext, ro_int, ro_nilS, ro_tup, ro2_nilS, ro2_int, got_str, pubs, pubsFrom, List.map_cons, List.map_nil, List.getD_cons_zero, List.getD_cons_succ, List.set_cons_zero, List.set_cons_succ, List.getElem?_cons_zero, List.getElem?_cons_succ, Bool.false_eq_true, Option.map_some, ↓reduceIte]
  refine callK_intro (n16 (rC st _ _) sC ho3) ?_
  rw [pu8]
  simp (maxSteps := 2000000) (disch := first | omega | (simp only [List.length_append, List.length_cons, List.length_nil, List.length_map] <;> omega)) only [List.set_cons_zero, List.set_cons_succ, flg_bool, flg_str, exc_str, exc_own, swp_seq, swp_reg, seqK_n, evK_some, appK_eq, appC_eq, srun_nil, srun_cons, stepK_call, sk_mv, sk_give, sk_ext, get_mk, raw_slot, raw_lit, put_some, wb_nil, ev_mv, ev_give, ev_ext, ro_bool, ro_str, ro_own, ro_tup, ro2_str, ro2_bool, got_own, got_str, pubs, pubsFrom, List.map_cons, List.map_nil, List.getD_cons_zero, List.getD_cons_succ, List.set_cons_zero, List.set_cons_succ, List.getElem?_cons_zero, List.getElem?_cons_succ, Bool.false_eq_true, Option.map_some, ↓reduceIte]
  refine callK_intro (n27 (rB _) sB (by simp [sm]) ho3) ?_
  rw [pu9]
  simp (maxSteps := 2000000) (disch := first | omega | (simp only [List.length_append, List.length_cons, List.length_nil, List.length_map] <;> omega)) only [x3, x4, x5, x6, x7, y1, y2, List.set_cons_zero, List.set_cons_succ, pub_excl2, flg_excl, exc_bool, exc_int, exc_str, exc_ro, exc_own, exc_excl, sk_idxB, idxB_ro, swp_seq, swp_reg, swp_skip, swp_cond, seqK_n, condK_f, evK_some, appK_eq, appC_eq, grd_t, srun_nil, srun_cons, stepK_call, stepK_grd, sk_mv, sk_take, sk_give, sk_pick, sk_bin, sk_fld, sk_load, sk_lenL, get_mk, raw_slot, raw_lit, put_some, wb_nil, wb_cons, ev_mv, ev_take, ev_give, ev_pick, ev_lenL, bin_eql, bin_neq, bin_eqlS, ro_int, ro_bool, ro_own, ro_excl, got_excl, got_own, got_roo, got_int, got_bool, got_str, pubs, pubsFrom, List.map_cons, List.map_nil, List.getD_cons_zero, List.getD_cons_succ, List.set_cons_zero, List.set_cons_succ, List.getElem?_cons_zero, Bool.false_eq_true, ↓reduceIte, Nat.zero_mul, bne_self_eq_false, Int.cast_ofNat_Int, Int.reduceToNat]
  refine callK_intro (n24 (rB _) sB.1 (by simp) ho3) ?_
  rw [pu10.2.2.2.1]
  simp (maxSteps := 2000000) (disch := first | omega | (simp only [List.length_append, List.length_cons, List.length_nil, List.length_map] <;> omega)) only [x5, List.set_cons_zero, List.set_cons_succ, exc_ro, exc_own, evK_some, appK_eq, appC_eq, grd_t, srun_cons, stepK_call, stepK_grd, sk_mv, sk_take, sk_pick, sk_bin, get_mk, raw_slot, raw_lit, put_some, wb_nil, ev_mv, ev_take, ev_pick, bin_eql, ro_bool, got_own, got_roo, pubs, pubsFrom, List.map_cons, List.map_nil, List.getD_cons_zero, List.getD_cons_succ, List.set_cons_zero, List.set_cons_succ, Bool.false_eq_true, ↓reduceIte, Int.cast_ofNat_Int]
  refine callK_intro (n23 (rB _) (rB _) sB.1) ?_
  rw [pu10.2.2.2.2.1]
  simp (maxSteps := 2000000) (disch := first | omega | (simp only [List.length_append, List.length_cons, List.length_nil, List.length_map] <;> omega)) only [List.set_cons_zero, List.set_cons_succ, got_slo, exc_slo, exc_ro, exc_own, evK_some, appK_eq, appC_eq, grd_t, srun_cons, stepK_call, stepK_grd, sk_mv, sk_take, sk_pick, get_mk, raw_slot, raw_lit, put_some, wb_nil, ev_mv, ev_take, ev_pick, ro_bool, got_own, got_roo, pubs, pubsFrom, List.map_cons, List.map_nil, List.getD_cons_zero, List.getD_cons_succ, List.set_cons_zero, List.set_cons_succ, Bool.false_eq_true, ↓reduceIte]
  refine callK_intro (n23 (rB _) (rC st _ _) sB.1) ?_
  rw [pu10.2.2.2.2.2]
  simp (maxSteps := 2000000) (disch := first | omega | (simp only [List.length_append, List.length_cons, List.length_nil, List.length_map] <;> omega)) only [x7, y3, Bool.not_false, List.set_cons_zero, List.set_cons_succ, exc_str, exc_ro, exc_own, sk_idxB, idxB_ro, evK_some, appK_eq, appC_eq, grd_t, srun_cons, stepK_call, stepK_grd, sk_mv, sk_take, sk_pick, sk_bin, sk_un, sk_load, get_mk, raw_slot, raw_lit, put_some, wb_nil, ev_mv, ev_take, ev_pick, ev_not, bin_eqlS, ro_bool, got_own, got_roo, got_str, pubs, pubsFrom, List.map_cons, List.map_nil, List.getD_cons_zero, List.getD_cons_succ, List.set_cons_zero, List.set_cons_succ, Bool.false_eq_true, ↓reduceIte, Nat.mul_one, Bool.not_false, Int.reduceToNat]
  refine callK_intro (n21 (rB _) sB ho3) ?_
  rw [pu10.1]
  simp (maxSteps := 2000000) (disch := first | omega | (simp only [List.length_append, List.length_cons, List.length_nil, List.length_map] <;> omega)) only [x8, List.set_cons_zero, List.set_cons_succ, exc_ro, exc_own, evK_some, appK_eq, appC_eq, grd_t, srun_cons, stepK_call, stepK_grd, sk_mv, sk_take, sk_pick, sk_bin, get_mk, raw_slot, raw_lit, put_some, wb_nil, ev_mv, ev_take, ev_pick, bin_eql, ro_bool, got_own, got_roo, pubs, pubsFrom, List.map_cons, List.map_nil, List.getD_cons_zero, List.getD_cons_succ, List.set_cons_zero, List.set_cons_succ, Bool.false_eq_true, ↓reduceIte]
  refine callK_intro (n19 (rB _) sB ho3) ?_
  rw [pu10.2.1]
  simp (maxSteps := 2000000) (disch := first | omega | (simp only [List.length_append, List.length_cons, List.length_nil, List.length_map] <;> omega)) only [y4, y5, y6, List.set_cons_zero, List.set_cons_succ, pub_excl2, exc_excl, evK_some, appK_eq, appC_eq, grd_t, srun_cons, stepK_call, stepK_grd, sk_mv, sk_pick, sk_bsl, sk_bld, get_mk, raw_slot, raw_lit, put_some, wb_nil, ev_mv, ev_pick, ro_bool, got_excl, pubs, pubsFrom, List.map_cons, List.map_nil, List.getD_cons_zero, List.getD_cons_succ, List.set_cons_zero, List.set_cons_succ, ↓reduceIte]
  refine callK_intro (n19 (rE _) sE ho3) ?_
  rw [pu10.2.2.1]
  simp (maxSteps := 2000000) (disch := first | omega | (simp only [List.length_append, List.length_cons, List.length_nil, List.length_map] <;> omega)) only [Bool.not_false, List.set_cons_zero, List.set_cons_succ, flg_bool, swp_ret, seqK_n, evK_some, appK_eq, appC_eq, grd_t, srun_nil, srun_cons, stepK_grd, fin_ret, sk_give, sk_pick, sk_un, get_mk, raw_slot, raw_lit, put_some, wb_nil, wb_cons, ev_give, ev_pick, ev_not, ro_bool, List.map_cons, List.map_nil, List.getD_cons_zero, List.getD_cons_succ, List.set_cons_zero, List.set_cons_succ, List.getElem?_cons_zero, true_and, Bool.false_eq_true, ↓reduceIte, Bool.not_false]
  first | exact ⟨_, trim1 ho rfl⟩ | exact ⟨_, trim1 ho rfl, rfl⟩ | exact ⟨_, trim1 ho rfl, rfl, rfl⟩ | exact ⟨_, trim1 ho rfl, by simp, rfl⟩ | exact ⟨_, trim1 ho rfl, by simp⟩
end Go.Sh.F
namespace Go.Sh.F
open Go.PathLaw Go.TreeLaw Go.Proofs
theorem put_can {t : List F} {p d : List UInt8} {l : List F} (h : putR t p d = (0, l)) : rightT t = true ∧ canPut t p d = 0 := by
  unfold putR at h
  by_cases hR : rightT t = true
  · rw [if_pos hR] at h
    refine ⟨hR, ?_⟩
    by_cases h0 : canPut t p d = 0
    · exact h0
    · rw [if_neg h0] at h
      split at h <;> cases h
  · rw [if_neg hR] at h; cases h
theorem smT_ins {t : List F} {p d : List UInt8} (hs : smT t) (hp : sm p) (hd : sm d) (hR : rightT (insP p d t) = true) : smT (insP p d t) := by
  refine ⟨by have := ((right_iff _).1 hR).1; omega, fun f hf => ?_⟩
  rcases mem_ins hf with rfl | hf
  · exact ⟨hp, hd⟩
  · exact hs.2 f hf
theorem smT_del {t : List F} {p : List UInt8} (hs : smT t) : smT (delP p t) := by
  have hsub := del_sub p t
  exact ⟨Nat.le_trans hsub.length_le hs.1, fun f hf => hs.2 f (hsub.subset hf)⟩
theorem getR_right {t : List F} {p : List UInt8} (h : rightT t = true) : getR t p = getP p t := by unfold getR; rw [if_pos h]
theorem right_del {t : List F} {p : List UInt8} (h : rightT t = true) : rightT (delP p t) = true := sub_right h (del_sub p t)
theorem find_del {t : List F} {p : List UInt8} : findR (delP p t) p = -1 := by
  unfold findR
  rw [if_neg]
  rintro ⟨_, h⟩
  rw [has_del] at h
  cases h
/-- Put that is told without an error: both its ways. -/
theorem put_two {t : List F} {p d : List UInt8} {l : List F} (h : putR t p d = (0, l)) : has (insP p d t) p = true ∧ rightT (insP p d t) = true ∧ getR (insP p d t) p = some d := by
  obtain ⟨hR, hc⟩ := put_can h
  have hR2 := put_right hR hc
  have hs := right_srt hR
  refine ⟨by rw [has_ins _ _ _ _ hs]; simp, hR2, ?_⟩
  rw [getR_right hR2, get_ins _ _ _ _ hs, if_pos rfl]
theorem fewT_iff {t : List F} (h : fewT t = true) : t.length ≤ 40 ∧ ∀ f ∈ t, f.1.length ≤ 100 ∧ f.2.length ≤ 1000 := by
  simpa [fewT] using h
theorem slo_row {st : List Ob} {l : List Ob} {i n : Nat} {u : List F} (h : l[i]? = some (.cells (u.flatMap fC))) (hn : u.length = n) : RowF (st ++ l) (.slo (st.length + i) 0 n) u := by
  subst hn
  exact ⟨len_fC u, .inr (.inr ⟨_, 0, u.flatMap fC, rfl, by rw [getA]; exact h, by rw [len_fC]; omega, by rw [List.drop_zero, List.take_of_length_le (by rw [len_fC]; omega)]⟩)⟩
theorem ro_row {st : List Ob} {n : Nat} {u : List F} (hn : u.length = n) : RowF st (.sl (u.flatMap fC) n .ro) u := by
  subst hn
  exact rd_F (.inr rfl) st
theorem put3 (t : List F) (p d : List UInt8) (id : Nat) (x : List Ob) :
    (∃ e : Int, (e == 0) = false ∧ (e = 1 ∨ e = 2 ∨ e = 6) ∧ putR t p d = (e, []) ∧ putO t p d id = .nilS ∧ putS t p d x = []) ∨
    (putR t p d = (0, insP p d t) ∧ (insP p d t).length = t.length ∧ putO t p d id = .slo id 0 t.length ∧ putS t p d x = x) ∨
    (putR t p d = (0, insP p d t) ∧ (insP p d t).length = t.length + 1 ∧ putO t p d id = .sl ((insP p d t).flatMap fC) (t.length + 1) (.excl 2) ∧ putS t p d x = []) := by
  rcases put_cases t p d id x with ⟨_, e⟩ | ⟨_, _, e⟩ | ⟨_, _, _, _, e⟩ | ⟨_, _, _, _, hh, e1, ⟨hl, ek, ei⟩, e2, e3⟩ | ⟨_, _, _, _, hh, _, e1, ei, e2, e3⟩
  · exact .inl ⟨1, rfl, by omega, e⟩
  · exact .inl ⟨6, rfl, by omega, e⟩
  · exact .inl ⟨2, rfl, by omega, e⟩
  · exact .inr (.inl ⟨e1, by rw [ei, List.length_set], e2, e3⟩)
  · refine .inr (.inr ⟨e1, ?_, by rw [e2, ei], e3⟩)
    have := low_le p t
    rw [ei, List.length_append, List.length_cons, List.length_take, List.length_drop]; omega
theorem nilF (st : List Ob) : RowF st .nilS [] := RowAt.nil
def O330 : Orc := O329.add 10 (StC fun st args r => okSt st ∧ args = [] ∧ r = .bool true)
theorem s330 : Sound Tryd.prog O330 := s329.addS c10 (by kernel_rfl) (by
  rintro args r st ⟨ho, rfl, rfl⟩
  exact ⟨by simp [sf10], t10 st ho⟩)
theorem nS {st : List Ob} (ho : okSt st) : O330 10 [] st (.bool true) st := .inr ⟨rfl, rfl, ho, rfl, rfl⟩
theorem up {f : FuncId} {a : List SV} {s s2 : List Ob} {r : SV} (h : O329 f a s r s2) : O330 f a s r s2 := .inl h
end Go.Sh.F
