/-
  Reader.Row, in the shadow machine.
-/
import Derived.Test.YtfiigeiajhecoaaT7
import Derived.Test.YtfiigeiajhecoaaShS
set_option linter.unusedSimpArgs false
set_option linter.unusedVariables false
namespace Go.Sh
def lpK (k : Nat) (I : S → Prop) (μ : S → Nat) (m : Nat) (Q : Ex → S → Prop) : Ex → S → Prop := fun e s' => match e with | .normal => ∃ s'', Forget k s' s'' ∧ I s'' ∧ μ s'' < m | e => Q e s'
section
variable {k m : Nat} {I : S → Prop} {μ : S → Nat} {Q : Ex → S → Prop} {s : S}
theorem lpK_n : lpK k I μ m Q .normal s = ∃ s'', Forget k s s'' ∧ I s'' ∧ μ s'' < m := _root_.id rfl
theorem lpK_e {i : Nat} : lpK k I μ m Q (.exit i) s = Q (.exit i) s := _root_.id rfl
theorem lpK_r : lpK k I μ m Q .ret s = Q .ret s := _root_.id rfl
theorem lpK_g {i : Nat} : lpK k I μ m Q (.goto i) s = Q (.goto i) s := _root_.id rfl
theorem swp_lp {O : Orc} {a : SC} (I : S → Prop) (μ : S → Nat) (s0 : S) (h0 : Forget s.st.length s s0) (hI : I s0)
    (h : ∀ s1, I s1 → swp O a (lpK s.st.length I μ (μ s1) Q) s1) : swp O (.loop a) Q s := swp_loop I μ s0 h0 hI h
end
section
variable {xs ys : List SV} {n id off es : Nat} {k : IntKind} {i : Int} {b : Bool} {l : List UInt8} {f : FuncId}
theorem flg_undef : flg .undef = false := _root_.id rfl
theorem flg_bool : flg (.bool b) = false := _root_.id rfl
theorem flg_int : flg (.int k i) = false := _root_.id rfl
theorem flg_str : flg (.str l) = false := _root_.id rfl
theorem flg_nilS : flg .nilS = false := _root_.id rfl
theorem flg_nilP : flg .nilP = false := _root_.id rfl
theorem flg_ptr : flg (.ptr id off) = false := _root_.id rfl
theorem flg_agg : flg (.agg xs) = false := _root_.id rfl
theorem flg_tup : flg (.tup xs) = false := _root_.id rfl
theorem flg_nilF : flg .nilF = false := _root_.id rfl
theorem flg_fn : flg (.fn f xs ys) = false := _root_.id rfl
theorem flg_nilM : flg .nilM = false := _root_.id rfl
theorem flg_mp : flg (.mp id) = false := _root_.id rfl
theorem flg_elv : flg (.elv xs n) = false := _root_.id rfl
theorem flg_ro : flg (.sl xs n .ro) = false := _root_.id rfl
theorem flg_full : flg (.sl xs n .full) = false := _root_.id rfl
theorem flg_own : flg (.sl xs n (.own es)) = true := _root_.id rfl
theorem flg_excl : flg (.sl xs n (.excl es)) = true := _root_.id rfl
theorem exc_undef : exc .undef = false := _root_.id rfl
theorem exc_bool : exc (.bool b) = false := _root_.id rfl
theorem exc_int : exc (.int k i) = false := _root_.id rfl
theorem exc_str : exc (.str l) = false := _root_.id rfl
theorem exc_nilS : exc .nilS = false := _root_.id rfl
theorem exc_nilP : exc .nilP = false := _root_.id rfl
theorem exc_ptr : exc (.ptr id off) = false := _root_.id rfl
theorem exc_agg : exc (.agg xs) = false := _root_.id rfl
theorem exc_tup : exc (.tup xs) = false := _root_.id rfl
theorem exc_nilF : exc .nilF = false := _root_.id rfl
theorem exc_fn : exc (.fn f xs ys) = false := _root_.id rfl
theorem exc_nilM : exc .nilM = false := _root_.id rfl
theorem exc_mp : exc (.mp id) = false := _root_.id rfl
theorem exc_elv : exc (.elv xs n) = false := _root_.id rfl
theorem exc_ro : exc (.sl xs n .ro) = false := _root_.id rfl
theorem exc_full : exc (.sl xs n .full) = false := _root_.id rfl
theorem exc_own : exc (.sl xs n (.own es)) = false := _root_.id rfl
theorem exc_excl : exc (.sl xs n (.excl es)) = true := _root_.id rfl
end
section
theorem fg_e : fg [] [] := trivial
theorem fg_d {a : SV} {p q : List SV} (h : fg p q) : fg (a :: p) (.undef :: q) := ⟨.inr rfl, h⟩
theorem fg_k {a b : SV} {p q : List SV} (e : b = a) (h : fg p q) : fg (a :: p) (b :: q) := ⟨.inl e, h⟩
end
end Go.Sh
namespace Go.Sh.F
def textsF (each : Int) : Nat → RdS → List (List UInt8) × RdS
  | 0, s => ([], s)
  | n + 1, s => if (textF s each).2.e ≠ 0 then ([], (textF s each).2) else ((textF s each).1 :: (textsF each n (textF s each).2).1, (textsF each n (textF s each).2).2)
def rowF (s : RdS) (most each : Int) : List (List UInt8) × RdS :=
  if (numF s (minI most 256)).2.e ≠ 0 then ([], { (numF s (minI most 256)).2 with p := s.p })
  else if (textsF each (numF s (minI most 256)).1.toNat (numF s (minI most 256)).2).2.e ≠ 0 then ([], { (textsF each (numF s (minI most 256)).1.toNat (numF s (minI most 256)).2).2 with p := s.p })
  else textsF each (numF s (minI most 256)).1.toNat (numF s (minI most 256)).2
theorem textF_spec (s : RdS) (most : Int) (hp : s.p ≤ s.l.length) : ∃ (x : List UInt8) (p : Nat) (e : Int), textF s most = (x, ⟨s.l, p, e⟩) ∧ p ≤ s.l.length ∧ x.length ≤ s.l.length := by
  unfold textF
  obtain ⟨n, p, e, hn, h1, h2⟩ := numF_spec s (minI most 16384) hp
  rw [hn]
  simp only
  split
  · exact ⟨_, _, _, rfl, h2, by simp⟩
  · split
    · exact ⟨_, _, _, rfl, hp, by simp⟩
    · refine ⟨_, _, _, rfl, ?_, ?_⟩
      · simp; omega
      · simp; omega
/-- A row that nobody else has. -/
def rowV (l : List (List UInt8)) : SV := if l = [] then .nilS else .sl (ssv l) l.length (.excl 1)
theorem rowV_nil : rowV [] = .nilS := rfl
theorem rowV_app (l : List (List UInt8)) (x : List UInt8) : rowV (l ++ [x]) = .sl (ssv l ++ [.str x]) (l.length + 1) (.excl 1) := by
  simp [rowV, ssv]
theorem app_rowV {st : List Ob} {z : List SV} {l : List (List UInt8)} {x : List UInt8} {f : Fl} (h : l.length ≤ 1048576) : ∃ wb, ev st (.app 1 16 z) [rowV l, .sl [.str x] 1 f] = some (rowV (l ++ [x]), wb, st) ∧ (wb = [] ∨ wb = [(0, .undef)]) := by
  by_cases hl : l = []
  · subst hl
    exact ⟨_, by rw [rowV_nil, app_nil (by simp) (by omega) (by omega) (by omega)]; rfl, .inl rfl⟩
  · refine ⟨_, ?_, .inr rfl⟩
    rw [rowV, if_neg hl, app_excl (by simp [ssv]) (by simp) (by omega) (by omega), rowV_app]
set_option maxHeartbeats 4000000 in
theorem f27 (s : RdS) (id : Nat) (st : List Ob) (most each : Int) (v : SV) (hv : rdv v s.l) (hl : s.l.length ≤ 1099511627776) (hp : s.p ≤ s.l.length) (h : st[id]? = some (.cells [v, .int .i64 s.p, .int .i64 s.e])) :
    swpF O11 sf28 [.ptr id 0, .int .i64 most, .int .i64 each] st (fun r st' => r = rowV (rowF s most each).1 ∧ st' = setOb st id [v, .int .i64 (rowF s most each).2.p, .int .i64 (rowF s most each).2.e]) := by
  have hlt := ob_lt h
  obtain ⟨n, p, e, hn, hnl, hpl⟩ := numF_spec s (minI most 256) hp
  have old : ∀ {g args st r st'}, O6 g args st r st' → O11 g args st r st' := fun h => .inl (.inl (.inl (.inl (.inl h))))
  have hf : O11 23 [.ptr id 0, .int .i64 (minI most 256)] st (.int .i64 n) (setOb st id [v, .int .i64 p, .int .i64 e]) := by
    refine old (.inl (.inr ⟨rfl, s, v, id, _, hv, hl, hp, h, rfl, ?_, ?_⟩))
    · rw [hn]
    · rw [hn]
  have hm : (if (256 : Int) < most then 256 else most) = minI most 256 := rfl
  have hr : rowF s most each = if e ≠ 0 then ([], (⟨s.l, s.p, e⟩ : RdS)) else if (textsF each n ⟨s.l, p, e⟩).2.e ≠ 0 then ([], { (textsF each n ⟨s.l, p, e⟩).2 with p := s.p }) else textsF each n ⟨s.l, p, e⟩ := by
    unfold rowF; rw [hn]; rfl
  have hn256 : e = 0 → n ≤ 256 := by
    intro he
    subst he
    unfold numF at hn
    split at hn
    · rename_i h0; exact absurd (congrArg (fun x => x.2.e) hn) h0
    · split at hn
      · exact absurd (congrArg (fun x => x.2.e) hn) (by simp)
      · split at hn
        · exact absurd (congrArg (fun x => x.2.e) hn) (by simp)
        · rename_i h3
          have h4 := congrArg (fun x => x.1) hn
          simp only at h4
          unfold minI at h3
          split at h3 <;> omega
  rw [hr]
  clear hr hn
  simp (maxSteps := 2000000) (disch := first | omega | (simp only [List.length_append, List.length_cons, List.length_nil, List.length_map] <;> omega)) only [sf28, h, hm, swp_seq, swp_reg, swp_skip, swp_ret, swp_exit, swp_label, swp_goto, swp_block, swp_scope, swp_both, swp_cond, seqK_n, seqK_e, seqK_r, seqK_g, blkK_n, blkK_e, blkK_r, blkK_g, noG_n, noG_e, noG_r, scpK_n, scpK_e, scpK_r, scpK_g, condK_t, condK_f, evK_some, appK_eq, appC_eq, grd_t, srun_nil, srun_cons, stepK_call, stepK_grd, fin_ret, fin_n, fin_nil, fin_two, fin_three, swpF_eq, sk_mv, sk_take, sk_give, sk_pick, sk_bin, sk_eqB, sk_eqN, sk_eqA, sk_un, sk_cvI, sk_b2s, sk_s2b, sk_idS, sk_nilc, sk_fld, sk_fldV, sk_idxS, sk_idxV, sk_idxA, sk_idxP, sk_load, sk_store, sk_lenS, sk_lenL, sk_lenA, sk_lenM, sk_min, sk_max, sk_slcS, sk_slcL, sk_mkS, sk_bsl, sk_bld, sk_box, sk_alloc, sk_ext, sk_app, sk_mfn, get_mk, raw_slot, raw_lit, put_some, put_none, wb_nil, wb_cons, ev_mv, ev_take, ev_give, ev_pick, ev_eqB, ev_not, ev_cvI, ev_nilc, ev_fld, ev_lenS, ev_lenL, ev_lenN, ev_min, ev_max, ev_eqNs1, ev_eqNs2, ev_eqNp1, ev_eqNp2, ev_ext, bin_add, bin_sub, bin_mul, bin_and, bin_or, bin_xor, bin_eql, bin_neq, bin_lss, bin_leq, bin_gtr, bin_geq, bin_eqlS, bin_neqS, bin_lssS, unr_succ, unrK_n, unrK_e, unrK_r, unrK_g, ev_b2sN, bsl_nil, ev_bsl, ev_bld, ev_box, ev_alloc, ev_ldP, ldP_some, stP_some, setOb_setOb, setOb_len, ev_loadE, slcS_hi, slcS_lo, slcS_both, slcL_hi_ro, slcL_lo_ro, slcL_both_ro, idxA_ro, slcL_hi_full, slcL_lo_full, slcL_both_full, idxA_full, slcL_hi_own, slcL_lo_own, slcL_both_own, idxA_own, slcL_nil_hi, slcL_nil_both, app_excl_str, ro_undef, ro_int, ro_bool, ro_str, ro_nilS, ro_nilP, ro_nilF, ro_nilM, ro_ptr, ro_mp, ro_fn, ro_elv, ro_ro, ro_full, ro_own, ro_excl, ro_agg, ro_tup, ro1_int, ro1_str, ro1_bool, ro1_nilS, ro2_nilS, ro1_nilP, ro2_nilP, ro1_nilF, ro2_nilF, ro1_nilM, ro2_nilM, ro1_ptr, ro2_ptr, ro1_mp, ro2_mp, ro1_fn, ro2_fn, ro1_ro, ro2_ro, ro1_full, ro2_full, ro1_own, ro2_own, ro2_int, ro2_str, ro2_bool, got_excl, got_own, got_roo, got_full, got_int, got_bool, got_str, got_nilS, got_nilP, got_ptr, got_fn, got_mp, got_undef, got_agg, pub_excl, flg, exc, pubs, pubsFrom, List.map_cons, List.map_nil, List.getD_cons_zero, List.getD_cons_succ, List.set_cons_zero, List.set_cons_succ, List.getElem?_cons_zero, List.getElem?_cons_succ, List.length_cons, List.length_nil, List.replicate_succ, List.replicate_zero, List.cons_append, List.nil_append, Nat.reduceAdd, Nat.reduceSub, Nat.reduceMul, Nat.reduceLeDiff, Nat.reduceLT, Nat.reduceEqDiff, if_true, if_false, true_and, and_true, Bool.false_eq_true, Option.map_some, Option.bind_some, ↓reduceIte, List.all_cons, List.all_nil, Bool.and_true, Bool.and_self, List.zip_cons_cons, List.zip_nil_left, List.zip_nil_right, rep, fillV, wrCells, cellsV, isCell, List.flatten_cons, List.flatten_nil, List.append_nil, decide_true, decide_false, Nat.zero_mul, Nat.mul_one, Nat.zero_add, reduceCtorEq, not_false_eq_true, forall_const, implies_true, Bool.not_true, Bool.not_false, beq_self_eq_true, bne_self_eq_false, Int.reduceBEq, Int.reduceBNe, st_bool, st_int, st_str, st_nilS, st_nilP, st_ptr, st_nilF, st_fn, st_nilM, st_mp, st_ro, st_full, setOb_same, ge_iff_le, gt_iff_lt, Int.cast_ofNat_Int, or_step, or_zero, Int.zero_mul, Int.reduceLE, Int.reduceLT, Int.reduceMul, Int.reduceSub, Int.reduceAdd, Int.reduceToNat, Int.reduceNeg, Int.reducePow, Nat.reducePow, IntKind.bits, wrap_i64, wrap_u8, bin_shr, bin_shl, Nat.min_def, ne_eq, Nat.one_ne_zero, List.length_append, Nat.le_refl, not_true_eq_false, app_excl, app_nil, ev_cvI]
  refine callK_intro hf ?_
  by_cases he : e = 0
  case neg =>
    have hb : (e != 0) = true := by simpa using he
    simp (maxSteps := 2000000) (disch := first | omega | (simp only [List.length_append, List.length_cons, List.length_nil, List.length_map] <;> omega)) only [hlt, hb, he, swp_seq, swp_reg, swp_skip, swp_ret, swp_exit, swp_label, swp_goto, swp_block, swp_scope, swp_both, swp_cond, seqK_n, seqK_e, seqK_r, seqK_g, blkK_n, blkK_e, blkK_r, blkK_g, noG_n, noG_e, noG_r, scpK_n, scpK_e, scpK_r, scpK_g, condK_t, condK_f, evK_some, appK_eq, appC_eq, grd_t, srun_nil, srun_cons, stepK_call, stepK_grd, fin_ret, fin_n, fin_nil, fin_two, fin_three, swpF_eq, sk_mv, sk_take, sk_give, sk_pick, sk_bin, sk_eqB, sk_eqN, sk_eqA, sk_un, sk_cvI, sk_b2s, sk_s2b, sk_idS, sk_nilc, sk_fld, sk_fldV, sk_idxS, sk_idxV, sk_idxA, sk_idxP, sk_load, sk_store, sk_lenS, sk_lenL, sk_lenA, sk_lenM, sk_min, sk_max, sk_slcS, sk_slcL, sk_mkS, sk_bsl, sk_bld, sk_box, sk_alloc, sk_ext, sk_app, sk_mfn, get_mk, raw_slot, raw_lit, put_some, put_none, wb_nil, wb_cons, ev_mv, ev_take, ev_give, ev_pick, ev_eqB, ev_not, ev_cvI, ev_nilc, ev_fld, ev_lenS, ev_lenL, ev_lenN, ev_min, ev_max, ev_eqNs1, ev_eqNs2, ev_eqNp1, ev_eqNp2, ev_ext, bin_add, bin_sub, bin_mul, bin_and, bin_or, bin_xor, bin_eql, bin_neq, bin_lss, bin_leq, bin_gtr, bin_geq, bin_eqlS, bin_neqS, bin_lssS, unr_succ, unrK_n, unrK_e, unrK_r, unrK_g, ev_b2sN, bsl_nil, ev_bsl, ev_bld, ev_box, ev_alloc, ev_ldP, ldP_some, stP_some, setOb_setOb, setOb_len, ev_loadE, slcS_hi, slcS_lo, slcS_both, slcL_hi_ro, slcL_lo_ro, slcL_both_ro, idxA_ro, slcL_hi_full, slcL_lo_full, slcL_both_full, idxA_full, slcL_hi_own, slcL_lo_own, slcL_both_own, idxA_own, slcL_nil_hi, slcL_nil_both, app_excl_str, ro_undef, ro_int, ro_bool, ro_str, ro_nilS, ro_nilP, ro_nilF, ro_nilM, ro_ptr, ro_mp, ro_fn, ro_elv, ro_ro, ro_full, ro_own, ro_excl, ro_agg, ro_tup, ro1_int, ro1_str, ro1_bool, ro1_nilS, ro2_nilS, ro1_nilP, ro2_nilP, ro1_nilF, ro2_nilF, ro1_nilM, ro2_nilM, ro1_ptr, ro2_ptr, ro1_mp, ro2_mp, ro1_fn, ro2_fn, ro1_ro, ro2_ro, ro1_full, ro2_full, ro1_own, ro2_own, ro2_int, ro2_str, ro2_bool, got_excl, got_own, got_roo, got_full, got_int, got_bool, got_str, got_nilS, got_nilP, got_ptr, got_fn, got_mp, got_undef, got_agg, pub_excl, flg, exc, pubs, pubsFrom, List.map_cons, List.map_nil, List.getD_cons_zero, List.getD_cons_succ, List.set_cons_zero, List.set_cons_succ, List.getElem?_cons_zero, List.getElem?_cons_succ, List.length_cons, List.length_nil, List.replicate_succ, List.replicate_zero, List.cons_append, List.nil_append, Nat.reduceAdd, Nat.reduceSub, Nat.reduceMul, Nat.reduceLeDiff, Nat.reduceLT, Nat.reduceEqDiff, if_true, if_false, true_and, and_true, Bool.false_eq_true, Option.map_some, Option.bind_some, ↓reduceIte, List.all_cons, List.all_nil, Bool.and_true, Bool.and_self, List.zip_cons_cons, List.zip_nil_left, List.zip_nil_right, rep, fillV, wrCells, cellsV, isCell, List.flatten_cons, List.flatten_nil, List.append_nil, decide_true, decide_false, Nat.zero_mul, Nat.mul_one, Nat.zero_add, reduceCtorEq, not_false_eq_true, forall_const, implies_true, Bool.not_true, Bool.not_false, beq_self_eq_true, bne_self_eq_false, Int.reduceBEq, Int.reduceBNe, st_bool, st_int, st_str, st_nilS, st_nilP, st_ptr, st_nilF, st_fn, st_nilM, st_mp, st_ro, st_full, setOb_same, ge_iff_le, gt_iff_lt, Int.cast_ofNat_Int, or_step, or_zero, Int.zero_mul, Int.reduceLE, Int.reduceLT, Int.reduceMul, Int.reduceSub, Int.reduceAdd, Int.reduceToNat, Int.reduceNeg, Int.reducePow, Nat.reducePow, IntKind.bits, wrap_i64, wrap_u8, bin_shr, bin_shl, Nat.min_def, ne_eq, Nat.one_ne_zero, List.length_append, Nat.le_refl, not_true_eq_false, app_excl, app_nil, ev_cvI]
    exact ⟨_, .same, rfl, rfl⟩
  subst he
  have hn256 := hn256 rfl
  simp (maxSteps := 2000000) (disch := first | omega | (simp only [List.length_append, List.length_cons, List.length_nil, List.length_map] <;> omega)) only [hlt, swp_seq, swp_reg, swp_skip, swp_ret, swp_exit, swp_label, swp_goto, swp_block, swp_scope, swp_both, swp_cond, seqK_n, seqK_e, seqK_r, seqK_g, blkK_n, blkK_e, blkK_r, blkK_g, noG_n, noG_e, noG_r, scpK_n, scpK_e, scpK_r, scpK_g, condK_t, condK_f, evK_some, appK_eq, appC_eq, grd_t, srun_nil, srun_cons, stepK_call, stepK_grd, fin_ret, fin_n, fin_nil, fin_two, fin_three, swpF_eq, sk_mv, sk_take, sk_give, sk_pick, sk_bin, sk_eqB, sk_eqN, sk_eqA, sk_un, sk_cvI, sk_b2s, sk_s2b, sk_idS, sk_nilc, sk_fld, sk_fldV, sk_idxS, sk_idxV, sk_idxA, sk_idxP, sk_load, sk_store, sk_lenS, sk_lenL, sk_lenA, sk_lenM, sk_min, sk_max, sk_slcS, sk_slcL, sk_mkS, sk_bsl, sk_bld, sk_box, sk_alloc, sk_ext, sk_app, sk_mfn, get_mk, raw_slot, raw_lit, put_some, put_none, wb_nil, wb_cons, ev_mv, ev_take, ev_give, ev_pick, ev_eqB, ev_not, ev_cvI, ev_nilc, ev_fld, ev_lenS, ev_lenL, ev_lenN, ev_min, ev_max, ev_eqNs1, ev_eqNs2, ev_eqNp1, ev_eqNp2, ev_ext, bin_add, bin_sub, bin_mul, bin_and, bin_or, bin_xor, bin_eql, bin_neq, bin_lss, bin_leq, bin_gtr, bin_geq, bin_eqlS, bin_neqS, bin_lssS, unr_succ, unrK_n, unrK_e, unrK_r, unrK_g, ev_b2sN, bsl_nil, ev_bsl, ev_bld, ev_box, ev_alloc, ev_ldP, ldP_some, stP_some, setOb_setOb, setOb_len, ev_loadE, slcS_hi, slcS_lo, slcS_both, slcL_hi_ro, slcL_lo_ro, slcL_both_ro, idxA_ro, slcL_hi_full, slcL_lo_full, slcL_both_full, idxA_full, slcL_hi_own, slcL_lo_own, slcL_both_own, idxA_own, slcL_nil_hi, slcL_nil_both, app_excl_str, ro_undef, ro_int, ro_bool, ro_str, ro_nilS, ro_nilP, ro_nilF, ro_nilM, ro_ptr, ro_mp, ro_fn, ro_elv, ro_ro, ro_full, ro_own, ro_excl, ro_agg, ro_tup, ro1_int, ro1_str, ro1_bool, ro1_nilS, ro2_nilS, ro1_nilP, ro2_nilP, ro1_nilF, ro2_nilF, ro1_nilM, ro2_nilM, ro1_ptr, ro2_ptr, ro1_mp, ro2_mp, ro1_fn, ro2_fn, ro1_ro, ro2_ro, ro1_full, ro2_full, ro1_own, ro2_own, ro2_int, ro2_str, ro2_bool, got_excl, got_own, got_roo, got_full, got_int, got_bool, got_str, got_nilS, got_nilP, got_ptr, got_fn, got_mp, got_undef, got_agg, pub_excl, flg, exc, pubs, pubsFrom, List.map_cons, List.map_nil, List.getD_cons_zero, List.getD_cons_succ, List.set_cons_zero, List.set_cons_succ, List.getElem?_cons_zero, List.getElem?_cons_succ, List.length_cons, List.length_nil, List.replicate_succ, List.replicate_zero, List.cons_append, List.nil_append, Nat.reduceAdd, Nat.reduceSub, Nat.reduceMul, Nat.reduceLeDiff, Nat.reduceLT, Nat.reduceEqDiff, if_true, if_false, true_and, and_true, Bool.false_eq_true, Option.map_some, Option.bind_some, ↓reduceIte, List.all_cons, List.all_nil, Bool.and_true, Bool.and_self, List.zip_cons_cons, List.zip_nil_left, List.zip_nil_right, rep, fillV, wrCells, cellsV, isCell, List.flatten_cons, List.flatten_nil, List.append_nil, decide_true, decide_false, Nat.zero_mul, Nat.mul_one, Nat.zero_add, reduceCtorEq, not_false_eq_true, forall_const, implies_true, Bool.not_true, Bool.not_false, beq_self_eq_true, bne_self_eq_false, Int.reduceBEq, Int.reduceBNe, st_bool, st_int, st_str, st_nilS, st_nilP, st_ptr, st_nilF, st_fn, st_nilM, st_mp, st_ro, st_full, setOb_same, ge_iff_le, gt_iff_lt, Int.cast_ofNat_Int, or_step, or_zero, Int.zero_mul, Int.reduceLE, Int.reduceLT, Int.reduceMul, Int.reduceSub, Int.reduceAdd, Int.reduceToNat, Int.reduceNeg, Int.reducePow, Nat.reducePow, IntKind.bits, wrap_i64, wrap_u8, bin_shr, bin_shl, Nat.min_def, ne_eq, Nat.one_ne_zero, List.length_append, Nat.le_refl, not_true_eq_false, app_excl, app_nil, ev_cvI]
  generalize hT : textsF each n ⟨s.l, p, 0⟩ = T
  refine swp_lp (fun S => ∃ (i q : Nat) (acc : List (List UInt8)) (av : SV), av = rowV acc ∧ i ≤ n ∧ acc.length = i ∧ q ≤ s.l.length ∧ (textsF each (n - i) ⟨s.l, q, 0⟩).2 = T.2 ∧ (T.2.e = 0 → acc ++ (textsF each (n - i) ⟨s.l, q, 0⟩).1 = T.1) ∧
    S = ⟨[.ptr id 0, .int .i64 most, .int .i64 each, .undef, .undef, .undef, .nilS, av, .undef, .int .i64 s.p, .int .i64 n] ++ List.replicate 13 .undef ++ [.int .i64 n, .int .i64 i] ++ List.replicate 19 .undef, setOb st id [v, .int .i64 q, .int .i64 0]⟩)
    (fun S => match S.get 25 with | .int _ k => ((n : Int) - k).toNat | _ => 0)
    ⟨[.ptr id 0, .int .i64 most, .int .i64 each, .undef, .undef, .undef, .nilS, .nilS, .undef, .int .i64 s.p, .int .i64 n] ++ List.replicate 13 .undef ++ [.int .i64 n, .int .i64 0] ++ List.replicate 19 .undef, setOb st id [v, .int .i64 p, .int .i64 0]⟩ ?_ ⟨0, p, [], .nilS, rfl, by omega, rfl, hpl, ?_, ?_, rfl⟩ ?_
  · refine Forget.of ?_
    simp only [List.replicate_succ, List.replicate_zero, List.cons_append, List.nil_append, fg_keep, fg_drop, fg_nil]
  · rw [← hT]; rfl
  · intro _; rw [← hT]; rfl
  rintro S ⟨i, q, acc, av, rfl, hi, hacc, hq, hT2, hT1, rfl⟩
  by_cases hin : i = n
  · subst hin
    have hd : decide ((i : Int) < (i : Int)) = false := by simp
    have e0 : textsF each 0 ⟨s.l, q, 0⟩ = ([], ⟨s.l, q, 0⟩) := rfl
    rw [Nat.sub_self, e0] at hT2 hT1
    have hte : T.2.e = 0 := by rw [← hT2]
    have hT1 := hT1 hte
    rw [if_neg (by simp [hte])]
    rw [← hT1, ← hT2]
    by_cases ha : acc = []
    · subst ha
      simp (maxSteps := 2000000) (disch := first | omega | (simp only [List.length_append, List.length_cons, List.length_nil, List.length_map] <;> omega)) only [hd, lpK_n, lpK_e, lpK_r, lpK_g, rowV_nil, hlt, swp_seq, swp_reg, swp_skip, swp_ret, swp_exit, swp_label, swp_goto, swp_block, swp_scope, swp_both, swp_cond, seqK_n, seqK_e, seqK_r, seqK_g, blkK_n, blkK_e, blkK_r, blkK_g, noG_n, noG_e, noG_r, scpK_n, scpK_e, scpK_r, scpK_g, condK_t, condK_f, evK_some, appK_eq, appC_eq, grd_t, srun_nil, srun_cons, stepK_call, stepK_grd, fin_ret, fin_n, fin_nil, fin_two, fin_three, swpF_eq, sk_mv, sk_take, sk_give, sk_pick, sk_bin, sk_eqB, sk_eqN, sk_eqA, sk_un, sk_cvI, sk_b2s, sk_s2b, sk_idS, sk_nilc, sk_fld, sk_fldV, sk_idxS, sk_idxV, sk_idxA, sk_idxP, sk_load, sk_store, sk_lenS, sk_lenL, sk_lenA, sk_lenM, sk_min, sk_max, sk_slcS, sk_slcL, sk_mkS, sk_bsl, sk_bld, sk_box, sk_alloc, sk_ext, sk_app, sk_mfn, get_mk, raw_slot, raw_lit, put_some, put_none, wb_nil, wb_cons, ev_mv, ev_take, ev_give, ev_pick, ev_eqB, ev_not, ev_cvI, ev_nilc, ev_fld, ev_lenS, ev_lenL, ev_lenN, ev_min, ev_max, ev_eqNs1, ev_eqNs2, ev_eqNp1, ev_eqNp2, ev_ext, bin_add, bin_sub, bin_mul, bin_and, bin_or, bin_xor, bin_eql, bin_neq, bin_lss, bin_leq, bin_gtr, bin_geq, bin_eqlS, bin_neqS, bin_lssS, unr_succ, unrK_n, unrK_e, unrK_r, unrK_g, ev_b2sN, bsl_nil, ev_bsl, ev_bld, ev_box, ev_alloc, ev_ldP, ldP_some, stP_some, setOb_setOb, setOb_len, ev_loadE, slcS_hi, slcS_lo, slcS_both, slcL_hi_ro, slcL_lo_ro, slcL_both_ro, idxA_ro, slcL_hi_full, slcL_lo_full, slcL_both_full, idxA_full, slcL_hi_own, slcL_lo_own, slcL_both_own, idxA_own, slcL_nil_hi, slcL_nil_both, app_excl_str, ro_undef, ro_int, ro_bool, ro_str, ro_nilS, ro_nilP, ro_nilF, ro_nilM, ro_ptr, ro_mp, ro_fn, ro_elv, ro_ro, ro_full, ro_own, ro_excl, ro_agg, ro_tup, ro1_int, ro1_str, ro1_bool, ro1_nilS, ro2_nilS, ro1_nilP, ro2_nilP, ro1_nilF, ro2_nilF, ro1_nilM, ro2_nilM, ro1_ptr, ro2_ptr, ro1_mp, ro2_mp, ro1_fn, ro2_fn, ro1_ro, ro2_ro, ro1_full, ro2_full, ro1_own, ro2_own, ro2_int, ro2_str, ro2_bool, got_excl, got_own, got_roo, got_full, got_int, got_bool, got_str, got_nilS, got_nilP, got_ptr, got_fn, got_mp, got_undef, got_agg, pub_excl, flg, exc, pubs, pubsFrom, List.map_cons, List.map_nil, List.getD_cons_zero, List.getD_cons_succ, List.set_cons_zero, List.set_cons_succ, List.getElem?_cons_zero, List.getElem?_cons_succ, List.length_cons, List.length_nil, List.replicate_succ, List.replicate_zero, List.cons_append, List.nil_append, Nat.reduceAdd, Nat.reduceSub, Nat.reduceMul, Nat.reduceLeDiff, Nat.reduceLT, Nat.reduceEqDiff, if_true, if_false, true_and, and_true, Bool.false_eq_true, Option.map_some, Option.bind_some, ↓reduceIte, List.all_cons, List.all_nil, Bool.and_true, Bool.and_self, List.zip_cons_cons, List.zip_nil_left, List.zip_nil_right, rep, fillV, wrCells, cellsV, isCell, List.flatten_cons, List.flatten_nil, List.append_nil, decide_true, decide_false, Nat.zero_mul, Nat.mul_one, Nat.zero_add, reduceCtorEq, not_false_eq_true, forall_const, implies_true, Bool.not_true, Bool.not_false, beq_self_eq_true, bne_self_eq_false, Int.reduceBEq, Int.reduceBNe, st_bool, st_int, st_str, st_nilS, st_nilP, st_ptr, st_nilF, st_fn, st_nilM, st_mp, st_ro, st_full, setOb_same, ge_iff_le, gt_iff_lt, Int.cast_ofNat_Int, or_step, or_zero, Int.zero_mul, Int.reduceLE, Int.reduceLT, Int.reduceMul, Int.reduceSub, Int.reduceAdd, Int.reduceToNat, Int.reduceNeg, Int.reducePow, Nat.reducePow, IntKind.bits, wrap_i64, wrap_u8, bin_shr, bin_shl, Nat.min_def, ne_eq, Nat.one_ne_zero, List.length_append, Nat.le_refl, not_true_eq_false, app_excl, app_nil, ev_cvI]
      exact ⟨_, .same, rfl⟩
    · have hrv : rowV acc = .sl (ssv acc) acc.length (.excl 1) := by rw [rowV, if_neg ha]
      simp (maxSteps := 2000000) (disch := first | omega | (simp only [List.length_append, List.length_cons, List.length_nil, List.length_map] <;> omega)) only [hd, lpK_n, lpK_e, lpK_r, lpK_g, hrv, hlt, swp_seq, swp_reg, swp_skip, swp_ret, swp_exit, swp_label, swp_goto, swp_block, swp_scope, swp_both, swp_cond, seqK_n, seqK_e, seqK_r, seqK_g, blkK_n, blkK_e, blkK_r, blkK_g, noG_n, noG_e, noG_r, scpK_n, scpK_e, scpK_r, scpK_g, condK_t, condK_f, evK_some, appK_eq, appC_eq, grd_t, srun_nil, srun_cons, stepK_call, stepK_grd, fin_ret, fin_n, fin_nil, fin_two, fin_three, swpF_eq, sk_mv, sk_take, sk_give, sk_pick, sk_bin, sk_eqB, sk_eqN, sk_eqA, sk_un, sk_cvI, sk_b2s, sk_s2b, sk_idS, sk_nilc, sk_fld, sk_fldV, sk_idxS, sk_idxV, sk_idxA, sk_idxP, sk_load, sk_store, sk_lenS, sk_lenL, sk_lenA, sk_lenM, sk_min, sk_max, sk_slcS, sk_slcL, sk_mkS, sk_bsl, sk_bld, sk_box, sk_alloc, sk_ext, sk_app, sk_mfn, get_mk, raw_slot, raw_lit, put_some, put_none, wb_nil, wb_cons, ev_mv, ev_take, ev_give, ev_pick, ev_eqB, ev_not, ev_cvI, ev_nilc, ev_fld, ev_lenS, ev_lenL, ev_lenN, ev_min, ev_max, ev_eqNs1, ev_eqNs2, ev_eqNp1, ev_eqNp2, ev_ext, bin_add, bin_sub, bin_mul, bin_and, bin_or, bin_xor, bin_eql, bin_neq, bin_lss, bin_leq, bin_gtr, bin_geq, bin_eqlS, bin_neqS, bin_lssS, unr_succ, unrK_n, unrK_e, unrK_r, unrK_g, ev_b2sN, bsl_nil, ev_bsl, ev_bld, ev_box, ev_alloc, ev_ldP, ldP_some, stP_some, setOb_setOb, setOb_len, ev_loadE, slcS_hi, slcS_lo, slcS_both, slcL_hi_ro, slcL_lo_ro, slcL_both_ro, idxA_ro, slcL_hi_full, slcL_lo_full, slcL_both_full, idxA_full, slcL_hi_own, slcL_lo_own, slcL_both_own, idxA_own, slcL_nil_hi, slcL_nil_both, app_excl_str, ro_undef, ro_int, ro_bool, ro_str, ro_nilS, ro_nilP, ro_nilF, ro_nilM, ro_ptr, ro_mp, ro_fn, ro_elv, ro_ro, ro_full, ro_own, ro_excl, ro_agg, ro_tup, ro1_int, ro1_str, ro1_bool, ro1_nilS, ro2_nilS, ro1_nilP, ro2_nilP, ro1_nilF, ro2_nilF, ro1_nilM, ro2_nilM, ro1_ptr, ro2_ptr, ro1_mp, ro2_mp, ro1_fn, ro2_fn, ro1_ro, ro2_ro, ro1_full, ro2_full, ro1_own, ro2_own, ro2_int, ro2_str, ro2_bool, got_excl, got_own, got_roo, got_full, got_int, got_bool, got_str, got_nilS, got_nilP, got_ptr, got_fn, got_mp, got_undef, got_agg, pub_excl, flg, exc, pubs, pubsFrom, List.map_cons, List.map_nil, List.getD_cons_zero, List.getD_cons_succ, List.set_cons_zero, List.set_cons_succ, List.getElem?_cons_zero, List.getElem?_cons_succ, List.length_cons, List.length_nil, List.replicate_succ, List.replicate_zero, List.cons_append, List.nil_append, Nat.reduceAdd, Nat.reduceSub, Nat.reduceMul, Nat.reduceLeDiff, Nat.reduceLT, Nat.reduceEqDiff, if_true, if_false, true_and, and_true, Bool.false_eq_true, Option.map_some, Option.bind_some, ↓reduceIte, List.all_cons, List.all_nil, Bool.and_true, Bool.and_self, List.zip_cons_cons, List.zip_nil_left, List.zip_nil_right, rep, fillV, wrCells, cellsV, isCell, List.flatten_cons, List.flatten_nil, List.append_nil, decide_true, decide_false, Nat.zero_mul, Nat.mul_one, Nat.zero_add, reduceCtorEq, not_false_eq_true, forall_const, implies_true, Bool.not_true, Bool.not_false, beq_self_eq_true, bne_self_eq_false, Int.reduceBEq, Int.reduceBNe, st_bool, st_int, st_str, st_nilS, st_nilP, st_ptr, st_nilF, st_fn, st_nilM, st_mp, st_ro, st_full, setOb_same, ge_iff_le, gt_iff_lt, Int.cast_ofNat_Int, or_step, or_zero, Int.zero_mul, Int.reduceLE, Int.reduceLT, Int.reduceMul, Int.reduceSub, Int.reduceAdd, Int.reduceToNat, Int.reduceNeg, Int.reducePow, Nat.reducePow, IntKind.bits, wrap_i64, wrap_u8, bin_shr, bin_shl, Nat.min_def, ne_eq, Nat.one_ne_zero, List.length_append, Nat.le_refl, not_true_eq_false, app_excl, app_nil, ev_cvI]
      exact ⟨_, .same, rfl⟩
  · have hd : decide ((i : Int) < (n : Int)) = true := by simp; omega
    obtain ⟨x, q', e', hx, hq', hxl⟩ := textF_spec ⟨s.l, q, 0⟩ each hq
    have hf2 : O11 25 [.ptr id 0, .int .i64 each] (setOb st id [v, .int .i64 q, .int .i64 0]) (.str x) (setOb (setOb st id [v, .int .i64 q, .int .i64 0]) id [v, .int .i64 q', .int .i64 e']) := by
      refine old (.inr ⟨rfl, ⟨s.l, q, 0⟩, v, id, _, hv, hl, hq, setOb_same hlt, rfl, ?_, ?_⟩)
      · rw [hx]
      · rw [hx]
    have hstep : n - i = (n - (i + 1)) + 1 := by omega
    rw [hstep] at hT2 hT1
    unfold textsF at hT2 hT1
    rw [hx] at hT2 hT1
    simp (maxSteps := 2000000) (disch := first | omega | (simp only [List.length_append, List.length_cons, List.length_nil, List.length_map] <;> omega)) only [hd, lpK_n, lpK_e, lpK_r, lpK_g, hlt, swp_seq, swp_reg, swp_skip, swp_ret, swp_exit, swp_label, swp_goto, swp_block, swp_scope, swp_both, swp_cond, seqK_n, seqK_e, seqK_r, seqK_g, blkK_n, blkK_e, blkK_r, blkK_g, noG_n, noG_e, noG_r, scpK_n, scpK_e, scpK_r, scpK_g, condK_t, condK_f, evK_some, appK_eq, appC_eq, grd_t, srun_nil, srun_cons, stepK_call, stepK_grd, fin_ret, fin_n, fin_nil, fin_two, fin_three, swpF_eq, sk_mv, sk_take, sk_give, sk_pick, sk_bin, sk_eqB, sk_eqN, sk_eqA, sk_un, sk_cvI, sk_b2s, sk_s2b, sk_idS, sk_nilc, sk_fld, sk_fldV, sk_idxS, sk_idxV, sk_idxA, sk_idxP, sk_load, sk_store, sk_lenS, sk_lenL, sk_lenA, sk_lenM, sk_min, sk_max, sk_slcS, sk_slcL, sk_mkS, sk_bsl, sk_bld, sk_box, sk_alloc, sk_ext, sk_app, sk_mfn, get_mk, raw_slot, raw_lit, put_some, put_none, wb_nil, wb_cons, ev_mv, ev_take, ev_give, ev_pick, ev_eqB, ev_not, ev_cvI, ev_nilc, ev_fld, ev_lenS, ev_lenL, ev_lenN, ev_min, ev_max, ev_eqNs1, ev_eqNs2, ev_eqNp1, ev_eqNp2, ev_ext, bin_add, bin_sub, bin_mul, bin_and, bin_or, bin_xor, bin_eql, bin_neq, bin_lss, bin_leq, bin_gtr, bin_geq, bin_eqlS, bin_neqS, bin_lssS, unr_succ, unrK_n, unrK_e, unrK_r, unrK_g, ev_b2sN, bsl_nil, ev_bsl, ev_bld, ev_box, ev_alloc, ev_ldP, ldP_some, stP_some, setOb_setOb, setOb_len, ev_loadE, slcS_hi, slcS_lo, slcS_both, slcL_hi_ro, slcL_lo_ro, slcL_both_ro, idxA_ro, slcL_hi_full, slcL_lo_full, slcL_both_full, idxA_full, slcL_hi_own, slcL_lo_own, slcL_both_own, idxA_own, slcL_nil_hi, slcL_nil_both, app_excl_str, ro_undef, ro_int, ro_bool, ro_str, ro_nilS, ro_nilP, ro_nilF, ro_nilM, ro_ptr, ro_mp, ro_fn, ro_elv, ro_ro, ro_full, ro_own, ro_excl, ro_agg, ro_tup, ro1_int, ro1_str, ro1_bool, ro1_nilS, ro2_nilS, ro1_nilP, ro2_nilP, ro1_nilF, ro2_nilF, ro1_nilM, ro2_nilM, ro1_ptr, ro2_ptr, ro1_mp, ro2_mp, ro1_fn, ro2_fn, ro1_ro, ro2_ro, ro1_full, ro2_full, ro1_own, ro2_own, ro2_int, ro2_str, ro2_bool, got_excl, got_own, got_roo, got_full, got_int, got_bool, got_str, got_nilS, got_nilP, got_ptr, got_fn, got_mp, got_undef, got_agg, pub_excl, flg, exc, pubs, pubsFrom, List.map_cons, List.map_nil, List.getD_cons_zero, List.getD_cons_succ, List.set_cons_zero, List.set_cons_succ, List.getElem?_cons_zero, List.getElem?_cons_succ, List.length_cons, List.length_nil, List.replicate_succ, List.replicate_zero, List.cons_append, List.nil_append, Nat.reduceAdd, Nat.reduceSub, Nat.reduceMul, Nat.reduceLeDiff, Nat.reduceLT, Nat.reduceEqDiff, if_true, if_false, true_and, and_true, Bool.false_eq_true, Option.map_some, Option.bind_some, ↓reduceIte, List.all_cons, List.all_nil, Bool.and_true, Bool.and_self, List.zip_cons_cons, List.zip_nil_left, List.zip_nil_right, rep, fillV, wrCells, cellsV, isCell, List.flatten_cons, List.flatten_nil, List.append_nil, decide_true, decide_false, Nat.zero_mul, Nat.mul_one, Nat.zero_add, reduceCtorEq, not_false_eq_true, forall_const, implies_true, Bool.not_true, Bool.not_false, beq_self_eq_true, bne_self_eq_false, Int.reduceBEq, Int.reduceBNe, st_bool, st_int, st_str, st_nilS, st_nilP, st_ptr, st_nilF, st_fn, st_nilM, st_mp, st_ro, st_full, setOb_same, ge_iff_le, gt_iff_lt, Int.cast_ofNat_Int, or_step, or_zero, Int.zero_mul, Int.reduceLE, Int.reduceLT, Int.reduceMul, Int.reduceSub, Int.reduceAdd, Int.reduceToNat, Int.reduceNeg, Int.reducePow, Nat.reducePow, IntKind.bits, wrap_i64, wrap_u8, bin_shr, bin_shl, Nat.min_def, ne_eq, Nat.one_ne_zero, List.length_append, Nat.le_refl, not_true_eq_false, app_excl, app_nil, ev_cvI]
    refine callK_intro hf2 ?_
    by_cases he : e' = 0
    case neg =>
      have hb : (e' != 0) = true := by simpa using he
      simp only [ne_eq, he, not_false_eq_true, if_true] at hT2
      have hte : T.2.e ≠ 0 := by rw [← hT2]; exact he
      rw [if_pos hte, ← hT2]
      simp (maxSteps := 2000000) (disch := first | omega | (simp only [List.length_append, List.length_cons, List.length_nil, List.length_map] <;> omega)) only [hlt, hb, lpK_n, lpK_e, lpK_r, lpK_g, swp_seq, swp_reg, swp_skip, swp_ret, swp_exit, swp_label, swp_goto, swp_block, swp_scope, swp_both, swp_cond, seqK_n, seqK_e, seqK_r, seqK_g, blkK_n, blkK_e, blkK_r, blkK_g, noG_n, noG_e, noG_r, scpK_n, scpK_e, scpK_r, scpK_g, condK_t, condK_f, evK_some, appK_eq, appC_eq, grd_t, srun_nil, srun_cons, stepK_call, stepK_grd, fin_ret, fin_n, fin_nil, fin_two, fin_three, swpF_eq, sk_mv, sk_take, sk_give, sk_pick, sk_bin, sk_eqB, sk_eqN, sk_eqA, sk_un, sk_cvI, sk_b2s, sk_s2b, sk_idS, sk_nilc, sk_fld, sk_fldV, sk_idxS, sk_idxV, sk_idxA, sk_idxP, sk_load, sk_store, sk_lenS, sk_lenL, sk_lenA, sk_lenM, sk_min, sk_max, sk_slcS, sk_slcL, sk_mkS, sk_bsl, sk_bld, sk_box, sk_alloc, sk_ext, sk_app, sk_mfn, get_mk, raw_slot, raw_lit, put_some, put_none, wb_nil, wb_cons, ev_mv, ev_take, ev_give, ev_pick, ev_eqB, ev_not, ev_cvI, ev_nilc, ev_fld, ev_lenS, ev_lenL, ev_lenN, ev_min, ev_max, ev_eqNs1, ev_eqNs2, ev_eqNp1, ev_eqNp2, ev_ext, bin_add, bin_sub, bin_mul, bin_and, bin_or, bin_xor, bin_eql, bin_neq, bin_lss, bin_leq, bin_gtr, bin_geq, bin_eqlS, bin_neqS, bin_lssS, unr_succ, unrK_n, unrK_e, unrK_r, unrK_g, ev_b2sN, bsl_nil, ev_bsl, ev_bld, ev_box, ev_alloc, ev_ldP, ldP_some, stP_some, setOb_setOb, setOb_len, ev_loadE, slcS_hi, slcS_lo, slcS_both, slcL_hi_ro, slcL_lo_ro, slcL_both_ro, idxA_ro, slcL_hi_full, slcL_lo_full, slcL_both_full, idxA_full, slcL_hi_own, slcL_lo_own, slcL_both_own, idxA_own, slcL_nil_hi, slcL_nil_both, app_excl_str, ro_undef, ro_int, ro_bool, ro_str, ro_nilS, ro_nilP, ro_nilF, ro_nilM, ro_ptr, ro_mp, ro_fn, ro_elv, ro_ro, ro_full, ro_own, ro_excl, ro_agg, ro_tup, ro1_int, ro1_str, ro1_bool, ro1_nilS, ro2_nilS, ro1_nilP, ro2_nilP, ro1_nilF, ro2_nilF, ro1_nilM, ro2_nilM, ro1_ptr, ro2_ptr, ro1_mp, ro2_mp, ro1_fn, ro2_fn, ro1_ro, ro2_ro, ro1_full, ro2_full, ro1_own, ro2_own, ro2_int, ro2_str, ro2_bool, got_excl, got_own, got_roo, got_full, got_int, got_bool, got_str, got_nilS, got_nilP, got_ptr, got_fn, got_mp, got_undef, got_agg, pub_excl, flg, exc, pubs, pubsFrom, List.map_cons, List.map_nil, List.getD_cons_zero, List.getD_cons_succ, List.set_cons_zero, List.set_cons_succ, List.getElem?_cons_zero, List.getElem?_cons_succ, List.length_cons, List.length_nil, List.replicate_succ, List.replicate_zero, List.cons_append, List.nil_append, Nat.reduceAdd, Nat.reduceSub, Nat.reduceMul, Nat.reduceLeDiff, Nat.reduceLT, Nat.reduceEqDiff, if_true, if_false, true_and, and_true, Bool.false_eq_true, Option.map_some, Option.bind_some, ↓reduceIte, List.all_cons, List.all_nil, Bool.and_true, Bool.and_self, List.zip_cons_cons, List.zip_nil_left, List.zip_nil_right, rep, fillV, wrCells, cellsV, isCell, List.flatten_cons, List.flatten_nil, List.append_nil, decide_true, decide_false, Nat.zero_mul, Nat.mul_one, Nat.zero_add, reduceCtorEq, not_false_eq_true, forall_const, implies_true, Bool.not_true, Bool.not_false, beq_self_eq_true, bne_self_eq_false, Int.reduceBEq, Int.reduceBNe, st_bool, st_int, st_str, st_nilS, st_nilP, st_ptr, st_nilF, st_fn, st_nilM, st_mp, st_ro, st_full, setOb_same, ge_iff_le, gt_iff_lt, Int.cast_ofNat_Int, or_step, or_zero, Int.zero_mul, Int.reduceLE, Int.reduceLT, Int.reduceMul, Int.reduceSub, Int.reduceAdd, Int.reduceToNat, Int.reduceNeg, Int.reducePow, Nat.reducePow, IntKind.bits, wrap_i64, wrap_u8, bin_shr, bin_shl, Nat.min_def, ne_eq, Nat.one_ne_zero, List.length_append, Nat.le_refl, not_true_eq_false, app_excl, app_nil, ev_cvI]
      exact ⟨_, .same, rfl, rfl⟩
    subst he
    simp only [ne_eq, not_true_eq_false, if_false] at hT2 hT1
    obtain ⟨wb, happ, hwb⟩ := app_rowV (st := setOb st id [v, .int .i64 q', .int .i64 0]) (z := [.str []]) (l := acc) (x := x) (f := .excl 1) (by omega)
    rw [rowV_app] at happ
    have hi1 : i + 1 ≤ n := by omega
    rcases hwb with rfl | rfl
    all_goals
      simp (maxSteps := 2000000) (disch := first | omega | (simp only [List.length_append, List.length_cons, List.length_nil, List.length_map] <;> omega)) only [hlt, lpK_n, lpK_e, lpK_r, lpK_g, happ, swp_seq, swp_reg, swp_skip, swp_ret, swp_exit, swp_label, swp_goto, swp_block, swp_scope, swp_both, swp_cond, seqK_n, seqK_e, seqK_r, seqK_g, blkK_n, blkK_e, blkK_r, blkK_g, noG_n, noG_e, noG_r, scpK_n, scpK_e, scpK_r, scpK_g, condK_t, condK_f, evK_some, appK_eq, appC_eq, grd_t, srun_nil, srun_cons, stepK_call, stepK_grd, fin_ret, fin_n, fin_nil, fin_two, fin_three, swpF_eq, sk_mv, sk_take, sk_give, sk_pick, sk_bin, sk_eqB, sk_eqN, sk_eqA, sk_un, sk_cvI, sk_b2s, sk_s2b, sk_idS, sk_nilc, sk_fld, sk_fldV, sk_idxS, sk_idxV, sk_idxA, sk_idxP, sk_load, sk_store, sk_lenS, sk_lenL, sk_lenA, sk_lenM, sk_min, sk_max, sk_slcS, sk_slcL, sk_mkS, sk_bsl, sk_bld, sk_box, sk_alloc, sk_ext, sk_app, sk_mfn, get_mk, raw_slot, raw_lit, put_some, put_none, wb_nil, wb_cons, ev_mv, ev_take, ev_give, ev_pick, ev_eqB, ev_not, ev_cvI, ev_nilc, ev_fld, ev_lenS, ev_lenL, ev_lenN, ev_min, ev_max, ev_eqNs1, ev_eqNs2, ev_eqNp1, ev_eqNp2, ev_ext, bin_add, bin_sub, bin_mul, bin_and, bin_or, bin_xor, bin_eql, bin_neq, bin_lss, bin_leq, bin_gtr, bin_geq, bin_eqlS, bin_neqS, bin_lssS, unr_succ, unrK_n, unrK_e, unrK_r, unrK_g, ev_b2sN, bsl_nil, ev_bsl, ev_bld, ev_box, ev_alloc, ev_ldP, ldP_some, stP_some, setOb_setOb, setOb_len, ev_loadE, slcS_hi, slcS_lo, slcS_both, slcL_hi_ro, slcL_lo_ro, slcL_both_ro, idxA_ro, slcL_hi_full, slcL_lo_full, slcL_both_full, idxA_full, slcL_hi_own, slcL_lo_own, slcL_both_own, idxA_own, slcL_nil_hi, slcL_nil_both, app_excl_str, ro_undef, ro_int, ro_bool, ro_str, ro_nilS, ro_nilP, ro_nilF, ro_nilM, ro_ptr, ro_mp, ro_fn, ro_elv, ro_ro, ro_full, ro_own, ro_excl, ro_agg, ro_tup, ro1_int, ro1_str, ro1_bool, ro1_nilS, ro2_nilS, ro1_nilP, ro2_nilP, ro1_nilF, ro2_nilF, ro1_nilM, ro2_nilM, ro1_ptr, ro2_ptr, ro1_mp, ro2_mp, ro1_fn, ro2_fn, ro1_ro, ro2_ro, ro1_full, ro2_full, ro1_own, ro2_own, ro2_int, ro2_str, ro2_bool, got_excl, got_own, got_roo, got_full, got_int, got_bool, got_str, got_nilS, got_nilP, got_ptr, got_fn, got_mp, got_undef, got_agg, pub_excl, flg, exc, pubs, pubsFrom, List.map_cons, List.map_nil, List.getD_cons_zero, List.getD_cons_succ, List.set_cons_zero, List.set_cons_succ, List.getElem?_cons_zero, List.getElem?_cons_succ, List.length_cons, List.length_nil, List.replicate_succ, List.replicate_zero, List.cons_append, List.nil_append, Nat.reduceAdd, Nat.reduceSub, Nat.reduceMul, Nat.reduceLeDiff, Nat.reduceLT, Nat.reduceEqDiff, if_true, if_false, true_and, and_true, Bool.false_eq_true, Option.map_some, Option.bind_some, ↓reduceIte, List.all_cons, List.all_nil, Bool.and_true, Bool.and_self, List.zip_cons_cons, List.zip_nil_left, List.zip_nil_right, rep, fillV, wrCells, cellsV, isCell, List.flatten_cons, List.flatten_nil, List.append_nil, decide_true, decide_false, Nat.zero_mul, Nat.mul_one, Nat.zero_add, reduceCtorEq, not_false_eq_true, forall_const, implies_true, Bool.not_true, Bool.not_false, beq_self_eq_true, bne_self_eq_false, Int.reduceBEq, Int.reduceBNe, st_bool, st_int, st_str, st_nilS, st_nilP, st_ptr, st_nilF, st_fn, st_nilM, st_mp, st_ro, st_full, setOb_same, ge_iff_le, gt_iff_lt, Int.cast_ofNat_Int, or_step, or_zero, Int.zero_mul, Int.reduceLE, Int.reduceLT, Int.reduceMul, Int.reduceSub, Int.reduceAdd, Int.reduceToNat, Int.reduceNeg, Int.reducePow, Nat.reducePow, IntKind.bits, wrap_i64, wrap_u8, bin_shr, bin_shl, Nat.min_def, ne_eq, Nat.one_ne_zero, List.length_append, Nat.le_refl, not_true_eq_false, app_excl, app_nil, ev_cvI]
      refine ⟨_, ?_, ⟨i + 1, q', acc ++ [x], _, (rowV_app acc x).symm, hi1, by simp [hacc], hq', hT2, fun h => ?_, rfl⟩, ?_⟩
      · refine Forget.of ?_
        repeat first | exact fg_e | refine fg_d ?_ | refine fg_k rfl ?_
      · rw [← hT1 h]; simp
      · show ((n : Int) - ((i + 1 : Nat) : Int)).toNat < ((n : Int) - (i : Int)).toNat
        omega
/-- Reader.Row. -/
def C27 : List SV → List Ob → SV → List Ob → Prop := fun args st r st' => ∃ s v id most each, rdv v s.l ∧ s.l.length ≤ 1099511627776 ∧ s.p ≤ s.l.length ∧ st[id]? = some (.cells [v, .int .i64 s.p, .int .i64 s.e]) ∧ args = [.ptr id 0, .int .i64 most, .int .i64 each] ∧ r = rowV (rowF s most each).1 ∧ st' = setOb st id [v, .int .i64 (rowF s most each).2.p, .int .i64 (rowF s most each).2.e]
def O12 : Orc := O11.add 28 C27
theorem s12 : Sound Proofs.Try.prog O12 := s11.add c28 (by kernel_rfl) (by
  rintro args st r st' ⟨s, v, id, most, each, hv, hl, hp, h, rfl, rfl, rfl⟩
  exact ⟨by simp [sf28], f27 s id st most each v hv hl hp h⟩)
end Go.Sh.F
