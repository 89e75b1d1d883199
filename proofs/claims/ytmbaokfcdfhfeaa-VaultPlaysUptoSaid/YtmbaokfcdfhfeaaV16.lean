/-
  The document's vault, in the shadow machine: Seal and Name.
-/
import Derived.Test.YtmbaokfcdfhfeaaV15
set_option linter.unusedSimpArgs false
set_option linter.unusedVariables false
namespace Go.Sh.F
theorem st_flX {st : List Ob} {i o n es : Nat} {xs : List SV} : ev st (.store 1 true) [.ptr i o, .sl xs n (.excl es)] = apO (st[i]?) fun l => if o < l.length then some (.undef, [(1, .sl xs n .ro)], setOb st i (l.set o (.sl xs n (.own es)))) else none := by
  show (match st[i]? with | some (.cells l) => _ | _ => none) = _
  unfold apO
  cases st[i]? with
  | none => rfl
  | some x => cases x with
    | map _ => rfl
    | cells l => simp [flg, pub, ro, ro2, ro1]
theorem st_flO {st : List Ob} {i o n es : Nat} {xs : List SV} : ev st (.store 1 true) [.ptr i o, .sl xs n (.own es)] = apO (st[i]?) fun l => if o < l.length then some (.undef, [(1, .sl xs n .ro)], setOb st i (l.set o (.sl xs n (.own es)))) else none := by
  show (match st[i]? with | some (.cells l) => _ | _ => none) = _
  unfold apO
  cases st[i]? with
  | none => rfl
  | some x => cases x with
    | map _ => rfl
    | cells l => simp [flg, pub, ro, ro2, ro1]
theorem draw_more {T : Int → Bool} : ∀ (F : Nat) (x : Int), T (drawF T F x) = false → drawF T (F + 1) x = drawF T F x
  | 0, x, h => by simp only [drawF] at h ⊢; simp [h]
  | F + 1, x, h => by
    simp only [drawF] at h ⊢
    by_cases hx : T x = true
    · rw [if_pos hx] at h
      simp only [hx, if_true]
      exact draw_more F _ h
    · simp [hx]
set_option maxHeartbeats 4000000 in
set_option maxRecDepth 20000 in
theorem k14 {st : List Ob} {y : Nat} {V : VS} (h : st[y]? = some (Yob V)) (hl : V.s.length ≤ 10000) (key : Int) (ad plain : List UInt8) (nonce : Int) :
    swpF O52 sf14 [.ptr y 0, .int .i64 key, .str ad, .str plain, .int .i64 nonce] st (fun r st' => r = .tup [.int .i64 (sealF V key ad plain nonce).1.1, .int .i64 (sealF V key ad plain nonce).1.2] ∧ st' = st.set y (Yob (sealF V key ad plain nonce).2)) := by
  have hy := (List.getElem?_eq_some_iff.1 h).1
  have hsame := set_same h
  obtain ⟨lv, hlv⟩ : ∃ lv, lv = ownV fO 4 V.s := ⟨_, rfl⟩
  obtain ⟨nv, hnv⟩ : ∃ nv, nv = ownV fN 3 V.n := ⟨_, rfl⟩
  have h' : st[y]? = some (.cells [lv, nv]) := by rw [h, hlv, hnv]; rfl
  have hu : ro lv = roV fO V.s := by rw [hlv]; exact ro_ownV
  obtain ⟨hro, hgot, hexc, hflg, hla⟩ := rdR_facts (roV_rd (f := fO) (l := V.s))
  simp (maxSteps := 2000000) (disch := first | omega | (simp only [List.length_append, List.length_cons, List.length_nil, List.length_map] <;> omega)) only [sf14, flg_int, exc_int, swp_seq, swp_reg, seqK_n, evK_some, appK_eq, srun_nil, srun_cons, stepK_call, swpF_eq, sk_mv, sk_give, sk_lenS, get_mk, raw_slot, raw_lit, put_some, wb_nil, ev_mv, ev_give, ev_lenS, ro_int, ro_str, got_int, pubs, pubsFrom, List.map_cons, List.map_nil, List.getD_cons_zero, List.getD_cons_succ, List.set_cons_zero, List.set_cons_succ, List.length_cons, List.length_nil, List.replicate_succ, List.replicate_zero, List.cons_append, List.nil_append, Nat.reduceAdd, Nat.reduceSub, Bool.false_eq_true, ↓reduceIte, Nat.zero_add]
  refine callK_intro (.inl (.inl (.inl (rbk _)))) ?_
  by_cases c0 : bucketF plain.length < 0
  · have d0 : decide (bucketF plain.length < 0) = true := by simp; omega
    rw [seal_no c0, hsame]
    simp (maxSteps := 2000000) (disch := first | omega | (simp only [List.length_append, List.length_cons, List.length_nil, List.length_map] <;> omega)) only [d0, flg_int, swp_seq, swp_reg, swp_ret, swp_cond, seqK_n, seqK_r, condK_t, evK_some, appK_eq, appC_eq, srun_nil, srun_cons, fin_two, sk_mv, sk_give, sk_bin, get_mk, raw_slot, raw_lit, put_some, wb_nil, ev_mv, ev_give, bin_lss, ro_int, List.map_cons, List.map_nil, List.getD_cons_zero, List.getD_cons_succ, List.set_cons_zero, List.set_cons_succ, true_and, Bool.false_eq_true, ↓reduceIte]
    exact ⟨_, .same, rfl⟩
  have d0 : decide (bucketF plain.length < 0) = false := by simp; omega
  have d1 : decide ((16384 : Int) ≤ (V.s.length : Int)) = false := by simp; omega
  obtain ⟨a, ha⟩ : ∃ a, a = drawF (isS V) V.s.length (maskF nonce) := ⟨_, rfl⟩
  have hfree := isS_free V (by omega) nonce
  rw [← ha] at hfree
  have hR : drawF (isS V) (V.s.length + 1) (maskF nonce) = a := by rw [ha]; exact draw_more _ _ (by rw [← ha]; exact hfree)
  have hnew := seal_new V (by omega) nonce
  rw [← ha] at hnew
  rw [seal_yes c0 (by omega), ← ha, mput_fresh hnew]
  have em : ∀ st, ev st (.bin .and) [.int .i64 nonce, .int .i64 4294967295] = some (.int .i64 (maskF nonce), [], st) := fun _ => bin_and
  have hmr := mask_range nonce
  simp (maxSteps := 2000000) (disch := first | omega | (simp only [List.length_append, List.length_cons, List.length_nil, List.length_map] <;> omega)) only [d0, d1, em, h', hu, hla, flg_int, exc_int, swp_seq, swp_reg, swp_skip, swp_block, swp_cond, seqK_n, condK_f, evK_some, appK_eq, appC_eq, srun_nil, srun_cons, sk_mv, sk_take, sk_give, sk_bin, sk_nilc, sk_fld, sk_load, sk_lenL, get_mk, raw_slot, raw_lit, put_some, wb_nil, ev_mv, ev_take, ev_give, ev_nilc, ev_fld, bin_lss, bin_geq, ev_ldP, ldP_some, ro_int, ro_ptr, got_int, List.map_cons, List.map_nil, List.getD_cons_zero, List.getD_cons_succ, List.set_cons_zero, List.set_cons_succ, List.getElem?_cons_zero, Bool.false_eq_true, Option.map_some, ↓reduceIte, Nat.zero_add, ge_iff_le]
  refine swp_lp (fun S => ∃ (i : Nat) (x : Int), i ≤ V.s.length + 1 ∧ 0 ≤ x ∧ x < 4294967296 ∧ drawF (isS V) (V.s.length + 1 - i) x = a ∧
      S = ⟨[.ptr y 0, .int .i64 key, .str ad, .str plain, .int .i64 nonce, .undef, .undef, .undef, .undef, .undef, .int .i64 0, .int .i64 0, .undef, .int .i64 x, .int .i64 i] ++ List.replicate 45 .undef, st⟩)
      (fun S => match S.get 14 with | .int _ k => ((V.s.length : Int) + 1 - k).toNat | _ => 0)
      ⟨[.ptr y 0, .int .i64 key, .str ad, .str plain, .int .i64 nonce, .undef, .undef, .undef, .undef, .undef, .int .i64 0, .int .i64 0, .undef, .int .i64 (maskF nonce), .int .i64 0] ++ List.replicate 45 .undef, st⟩ ?_ ⟨0, maskF nonce, by omega, hmr.1, hmr.2, hR, rfl⟩ ?_
  · refine Forget.of ?_
    repeat first | exact fg_e | refine fg_d ?_ | refine fg_k rfl ?_
  rintro S ⟨i, x, hi, x0, x1, hx, rfl⟩
  have hT : (V.s.any fun p => p.1 == x) = isS V x := any_mget
  have c27 : O52 27 [.ptr y 0, .int .i64 x] st (.bool (isS V x)) st := .inl (.inr ⟨rfl, y, V, x, h, by omega, rfl, by rw [hT], rfl⟩)
  -- what is behind the loop
  have app1 : V.s = [] → Yob { V with s := V.s ++ [(a, key, ad, plain)] } = .cells [.sl [.int .i64 a, .int .i64 key, .str ad, .str plain] 1 (.own 4), nv] := by
    intro e; unfold Yob; rw [e, hnv]; rfl
  have app2 : V.s ≠ [] → Yob { V with s := V.s ++ [(a, key, ad, plain)] } = .cells [.sl (V.s.flatMap fO ++ [.int .i64 a, .int .i64 key, .str ad, .str plain]) (V.s.length + 1) (.own 4), nv] := by
    intro e
    unfold Yob
    rw [ownV_some (by simp : V.s ++ [(a, key, ad, plain)] ≠ []), hnv]
    simp [fO]
  have h4 := fO_len V.s
  by_cases hend : isS V x = false ∨ i = V.s.length + 1
  · have hxa : x = a := by
      rcases hend with he | he
      · rw [← hx]
        cases V.s.length + 1 - i with
        | zero => rfl
        | succ f => simp [drawF, he]
      · rw [he, Nat.sub_self] at hx; exact hx
    subst hxa
    by_cases hil : i ≤ V.s.length
    · have hd : decide ((i : Int) ≤ (V.s.length : Int)) = true := by simp; omega
      rw [hfree] at c27
      simp (maxSteps := 2000000) (disch := first | omega | (simp only [List.length_append, List.length_cons, List.length_nil, List.length_map] <;> omega)) only [hd, h', hu, hla, grd_t, exc_int, exc_ptr, swp_seq, swp_reg, evK_some, appK_eq, grd_t, srun_cons, stepK_call, stepK_grd, sk_mv, sk_take, sk_bin, sk_nilc, sk_fld, sk_load, sk_lenL, get_mk, raw_slot, put_some, wb_nil, ev_mv, ev_take, ev_nilc, ev_fld, bin_leq, ev_ldP, ldP_some, ro_int, ro_bool, ro_ptr, got_int, got_ptr, pubs, pubsFrom, List.map_cons, List.map_nil, List.getD_cons_zero, List.getD_cons_succ, List.set_cons_zero, List.set_cons_succ, List.getElem?_cons_zero, List.replicate_succ, List.replicate_zero, List.cons_append, List.nil_append, Bool.false_eq_true, Option.map_some, ↓reduceIte, Nat.zero_add]
      refine callK_intro c27 ?_
      by_cases e : V.s = []
      · have hl0 : lv = .nilS := by rw [hlv, e]; rfl
        rw [hl0] at h'
        rw [app1 e]
        simp (maxSteps := 2000000) (disch := first | omega | (simp only [List.length_append, List.length_cons, List.length_nil, List.length_map] <;> omega)) only [h', st_flX, ev_pick, lpK_e, sk_loadG, ev_loadG, apO_some, flg_int, flg_nilS, exc_int, exc_str, exc_agg, swp_seq, swp_reg, swp_ret, swp_exit, swp_cond, seqK_n, seqK_e, blkK_e, condK_f, evK_some, appK_eq, appC_eq, srun_nil, srun_cons, fin_two, sk_mv, sk_give, sk_pick, sk_nilc, sk_fld, sk_store, sk_bsl, sk_bld, sk_app, get_mk, raw_slot, raw_lit, put_some, put_none, wb_nil, wb_cons, ev_mv, ev_give, ev_pick, ev_nilc, ev_fld, ev_bsl, ev_bld, ro_int, ro_bool, ro_str, ro_nilS, ro_ptr, ro1_int, ro1_str, got_int, got_str, got_agg, pubs, pubsFrom, List.map_cons, List.map_nil, List.getD_cons_zero, List.getD_cons_succ, List.set_cons_zero, List.set_cons_succ, List.getElem?_cons_zero, List.getElem?_cons_succ, List.length_cons, List.length_nil, List.replicate_succ, List.replicate_zero, Nat.reduceAdd, Nat.reduceLeDiff, Nat.reduceLT, true_and, and_true, Bool.false_eq_true, Option.map_some, ↓reduceIte, List.all_cons, List.all_nil, Bool.and_self, List.zip_cons_cons, List.zip_nil_right, rep, fillV, wrCells, cellsV, isCell, List.flatten_cons, List.flatten_nil, List.append_nil, decide_true, Nat.zero_mul, Nat.zero_add, Nat.le_refl, app_nil]
        exact ⟨_, .same, rfl⟩
      · have hl0 : lv = .sl (V.s.flatMap fO) V.s.length (.own 4) := by rw [hlv]; exact ownV_some e
        rw [hl0] at h'
        rw [app2 e]
        simp (maxSteps := 2000000) (disch := first | omega | (simp only [List.length_append, List.length_cons, List.length_nil, List.length_map] <;> omega)) only [h', st_flO, ev_pick, lpK_e, app_own, sk_loadG, ev_loadG, apO_some, flg_int, flg_own, exc_int, exc_str, exc_agg, swp_seq, swp_reg, swp_ret, swp_exit, swp_cond, seqK_n, seqK_e, blkK_e, condK_f, evK_some, appK_eq, appC_eq, srun_nil, srun_cons, fin_two, sk_mv, sk_give, sk_pick, sk_nilc, sk_fld, sk_store, sk_bsl, sk_bld, sk_app, get_mk, raw_slot, raw_lit, put_some, put_none, wb_nil, wb_cons, ev_mv, ev_give, ev_pick, ev_nilc, ev_fld, ev_bsl, ev_bld, setOb_setOb, ro_int, ro_bool, ro_str, ro_ptr, ro_own, ro1_int, ro1_str, got_int, got_str, got_agg, pubs, pubsFrom, List.map_cons, List.map_nil, List.getD_cons_zero, List.getD_cons_succ, List.set_cons_zero, List.set_cons_succ, List.getElem?_cons_zero, List.getElem?_cons_succ, List.length_cons, List.length_nil, List.replicate_succ, List.replicate_zero, Nat.reduceAdd, Nat.reduceLeDiff, Nat.reduceLT, true_and, and_true, Bool.false_eq_true, Option.map_some, ↓reduceIte, List.all_cons, List.all_nil, Bool.and_self, List.zip_cons_cons, List.zip_nil_right, rep, fillV, wrCells, cellsV, isCell, List.flatten_cons, List.flatten_nil, List.append_nil, decide_true, Nat.zero_mul, Nat.zero_add, setOb_same, Nat.le_refl]
        exact ⟨_, .same, rfl⟩
    · have hd : decide ((i : Int) ≤ (V.s.length : Int)) = false := by simp; omega
      by_cases e : V.s = []
      · have hl0 : lv = .nilS := by rw [hlv, e]; rfl
        rw [e] at hd hla hu
        rw [hl0] at h'
        rw [app1 e]
        have hd' : decide ((i : Int) ≤ 0) = false := hd
        simp (maxSteps := 2000000) (disch := first | omega | (simp only [List.length_append, List.length_cons, List.length_nil, List.length_map] <;> omega)) only [hd', h', st_flX, grd_t, ev_pick, lpK_e, sk_loadG, ev_loadG, apO_some, flg_int, flg_nilS, exc_int, exc_str, exc_agg, swp_seq, swp_reg, swp_ret, swp_exit, swp_cond, seqK_n, seqK_e, blkK_e, condK_f, evK_some, appK_eq, grd_t, srun_nil, srun_cons, stepK_grd, fin_two, sk_mv, sk_give, sk_pick, sk_bin, sk_nilc, sk_fld, sk_load, sk_store, sk_lenL, sk_bsl, sk_bld, sk_app, get_mk, raw_slot, raw_lit, put_some, put_none, wb_nil, wb_cons, ev_mv, ev_give, ev_pick, ev_nilc, ev_fld, ev_lenN, bin_leq, ev_bsl, ev_bld, ev_ldP, ldP_some, ro_int, ro_bool, ro_str, ro_nilS, ro_ptr, ro1_int, ro1_str, got_int, got_str, got_agg, pubs, pubsFrom, List.map_cons, List.map_nil, List.getD_cons_zero, List.getD_cons_succ, List.set_cons_zero, List.set_cons_succ, List.getElem?_cons_zero, List.getElem?_cons_succ, List.length_cons, List.length_nil, List.replicate_succ, List.replicate_zero, List.cons_append, List.nil_append, Nat.reduceAdd, Nat.reduceLeDiff, Nat.reduceLT, true_and, and_true, Bool.false_eq_true, Option.map_some, ↓reduceIte, List.all_cons, List.all_nil, Bool.and_self, List.zip_cons_cons, List.zip_nil_right, rep, fillV, wrCells, cellsV, isCell, List.flatten_cons, List.flatten_nil, List.append_nil, decide_true, Nat.zero_mul, Nat.zero_add, Nat.le_refl, app_nil]
        exact ⟨_, .same, rfl⟩
      · have hl0 : lv = .sl (V.s.flatMap fO) V.s.length (.own 4) := by rw [hlv]; exact ownV_some e
        rw [hl0] at h' hu
        rw [app2 e]
        simp (maxSteps := 2000000) (disch := first | omega | (simp only [List.length_append, List.length_cons, List.length_nil, List.length_map] <;> omega)) only [hd, h', st_flO, grd_t, ev_pick, lpK_e, app_own, sk_loadG, ev_loadG, apO_some, flg_int, flg_own, exc_int, exc_str, exc_agg, swp_seq, swp_reg, swp_ret, swp_exit, swp_cond, seqK_n, seqK_e, blkK_e, condK_f, evK_some, appK_eq, grd_t, srun_nil, srun_cons, stepK_grd, fin_two, sk_mv, sk_give, sk_pick, sk_bin, sk_nilc, sk_fld, sk_load, sk_store, sk_lenL, sk_bsl, sk_bld, sk_app, get_mk, raw_slot, raw_lit, put_some, put_none, wb_nil, wb_cons, ev_mv, ev_give, ev_pick, ev_nilc, ev_fld, ev_lenL, bin_leq, ev_bsl, ev_bld, ev_ldP, ldP_some, setOb_setOb, ro_int, ro_bool, ro_str, ro_ptr, ro_own, ro1_int, ro1_str, got_int, got_str, got_agg, pubs, pubsFrom, List.map_cons, List.map_nil, List.getD_cons_zero, List.getD_cons_succ, List.set_cons_zero, List.set_cons_succ, List.getElem?_cons_zero, List.getElem?_cons_succ, List.length_cons, List.length_nil, List.replicate_succ, List.replicate_zero, List.cons_append, List.nil_append, Nat.reduceAdd, Nat.reduceLeDiff, Nat.reduceLT, true_and, and_true, Bool.false_eq_true, Option.map_some, ↓reduceIte, List.all_cons, List.all_nil, Bool.and_self, List.zip_cons_cons, List.zip_nil_right, rep, fillV, wrCells, cellsV, isCell, List.flatten_cons, List.flatten_nil, List.append_nil, decide_true, Nat.zero_mul, Nat.zero_add, setOb_same, Nat.le_refl]
        exact ⟨_, .same, rfl⟩
  · have hxt : isS V x = true := by
      cases hh : isS V x with
      | true => rfl
      | false => exact absurd (.inl hh) hend
    have hil : i ≤ V.s.length := by
      rcases Nat.lt_or_ge V.s.length i with hlt | hge
      · exact absurd (.inr (by omega)) hend
      · exact hge
    have hd : decide ((i : Int) ≤ (V.s.length : Int)) = true := by simp; omega
    rw [hxt] at c27
    have hs := step_eq x0
    have e1 : ∀ st, ev st (.bin .and) [.int .i64 (x + 1), .int .i64 4294967295] = some (.int .i64 (stepI x), [], st) := fun st => by
      rw [bin_and]
      have := mask_eq (x + 1)
      unfold maskF at this
      rw [this, hs]
    rw [show V.s.length + 1 - i = (V.s.length + 1 - (i + 1)) + 1 by omega] at hx
    simp only [drawF, hxt, if_true] at hx
    simp (maxSteps := 2000000) (disch := first | omega | (simp only [List.length_append, List.length_cons, List.length_nil, List.length_map] <;> omega)) only [hd, h', hu, hla, grd_t, exc_int, exc_ptr, swp_seq, swp_reg, evK_some, appK_eq, grd_t, srun_cons, stepK_call, stepK_grd, sk_mv, sk_take, sk_bin, sk_nilc, sk_fld, sk_load, sk_lenL, get_mk, raw_slot, put_some, wb_nil, ev_mv, ev_take, ev_nilc, ev_fld, bin_leq, ev_ldP, ldP_some, ro_int, ro_bool, ro_ptr, got_int, got_ptr, pubs, pubsFrom, List.map_cons, List.map_nil, List.getD_cons_zero, List.getD_cons_succ, List.set_cons_zero, List.set_cons_succ, List.getElem?_cons_zero, List.replicate_succ, List.replicate_zero, List.cons_append, List.nil_append, Bool.false_eq_true, Option.map_some, ↓reduceIte, Nat.zero_add]
    refine callK_intro c27 ?_
    simp (maxSteps := 2000000) (disch := first | omega | (simp only [List.length_append, List.length_cons, List.length_nil, List.length_map] <;> omega)) only [e1, ev_pick, lpK_n, flg_int, swp_seq, swp_reg, swp_skip, swp_block, swp_cond, seqK_n, blkK_n, condK_t, evK_some, appK_eq, appC_eq, srun_nil, srun_cons, sk_mv, sk_give, sk_pick, sk_bin, get_mk, raw_slot, raw_lit, put_some, wb_nil, ev_mv, ev_give, ev_pick, bin_add, ro_int, ro_bool, List.map_cons, List.map_nil, List.getD_cons_zero, List.getD_cons_succ, List.set_cons_zero, List.set_cons_succ, Bool.false_eq_true, ↓reduceIte, wrap_i64]
    refine ⟨_, ?_, ⟨i + 1, stepI x, by omega, by rw [hs]; omega, by rw [hs]; omega, hx, rfl⟩, ?_⟩
    · refine Forget.of ?_
      repeat first | exact fg_e | refine fg_d ?_ | refine fg_k rfl ?_
    · show ((V.s.length : Int) + 1 - ((i + 1 : Nat) : Int)).toNat < ((V.s.length : Int) + 1 - (i : Int)).toNat
      omega
def K14 : List SV → List Ob → SV → List Ob → Prop := fun args st r st' => ∃ y V key ad plain nonce, st[y]? = some (Yob V) ∧ V.s.length ≤ 10000 ∧ args = [.ptr y 0, .int .i64 key, .str ad, .str plain, .int .i64 nonce] ∧
  r = .tup [.int .i64 (sealF V key ad plain nonce).1.1, .int .i64 (sealF V key ad plain nonce).1.2] ∧ st' = st.set y (Yob (sealF V key ad plain nonce).2)
def O53 : Orc := O52.add 14 K14
theorem s53 : Sound Proofs.Try.prog O53 := s52.add c14 (by kernel_rfl) (by
  rintro args st r st' ⟨y, V, key, ad, plain, nonce, h, hl, rfl, rfl, rfl⟩
  exact ⟨by simp [sf14], k14 h hl key ad plain nonce⟩)
theorem nany_mget {x : Int} : ∀ {l : List ((Int × List UInt8) × Int)}, (l.any fun p => p.2 == x) = (mget x (l.map fun p => (p.2, true))).getD false
  | [] => rfl
  | p :: l => by
    rw [List.map_cons]
    simp only [List.any_cons, mget]
    by_cases h : x = p.2
    · subst h; simp
    · rw [beq_eq_false_iff_ne.2 h, beq_eq_false_iff_ne.2 fun e => h e.symm, Bool.false_or]
      exact nany_mget
theorem name_fresh {V : VS} {key : Int} {label : List UInt8} {nonce : Int} (h : mget (key, label) V.n = none) (hl : V.n.length < 16384) : nameF V key label nonce = ((drawF (isT V) V.t.length (maskF nonce), 0), { V with n := mput (key, label) (drawF (isT V) V.t.length (maskF nonce)) V.n, t := mput (drawF (isT V) V.t.length (maskF nonce)) true V.t }) := by
  unfold nameF; rw [h]; simp only; rw [if_neg (by omega)]
set_option maxHeartbeats 8000000 in
set_option maxRecDepth 20000 in
theorem k18 {st : List Ob} {y : Nat} {V : VS} (h : st[y]? = some (Yob V)) (hl : V.n.length ≤ 10000) (ht : V.t = V.n.map fun p => (p.2, true)) (key : Int) (label : List UInt8) (nonce : Int) :
    swpF O53 sf18 [.ptr y 0, .int .i64 key, .str label, .int .i64 nonce] st (fun r st' => r = .tup [.int .i64 (nameF V key label nonce).1.1, .int .i64 (nameF V key label nonce).1.2] ∧ st' = st.set y (Yob (nameF V key label nonce).2)) := by
  have hy := (List.getElem?_eq_some_iff.1 h).1
  have hsame := set_same h
  obtain ⟨lv, hlv⟩ : ∃ lv, lv = ownV fO 4 V.s := ⟨_, rfl⟩
  obtain ⟨nv, hnv⟩ : ∃ nv, nv = ownV fN 3 V.n := ⟨_, rfl⟩
  have h' : st[y]? = some (.cells [lv, nv]) := by rw [h, hlv, hnv]; rfl
  have hu : ro nv = roV fN V.n := by rw [hnv]; exact ro_ownV
  obtain ⟨hro, hgot, hexc, hflg, hla⟩ := rdR_facts (roV_rd (f := fN) (l := V.n))
  have h3 := fN_len V.n
  simp (maxSteps := 2000000) (disch := first | omega | (simp only [List.length_append, List.length_cons, List.length_nil, List.length_map] <;> omega)) only [sf18, flg_int, exc_int, swp_seq, swp_reg, swp_block, seqK_n, evK_some, appK_eq, srun_nil, srun_cons, swpF_eq, sk_take, sk_give, raw_lit, put_some, wb_nil, ev_take, ev_give, ro_int, got_int, List.map_cons, List.map_nil, List.set_cons_zero, List.set_cons_succ, List.length_cons, List.length_nil, List.replicate_succ, List.replicate_zero, List.cons_append, List.nil_append, Nat.reduceAdd, Nat.reduceSub, Bool.false_eq_true, ↓reduceIte, Nat.zero_add]
  refine swp_lp (fun S => ∃ (i : Nat), i ≤ V.n.length ∧ mget (key, label) (V.n.drop i) = mget (key, label) V.n ∧
      S = ⟨[.ptr y 0, .int .i64 key, .str label, .int .i64 nonce, .undef, .undef, .undef, .undef, .int .i64 0, .int .i64 0, .int .i64 i] ++ List.replicate 80 .undef, st⟩)
      (fun S => match S.get 10 with | .int _ k => ((V.n.length : Int) - k).toNat | _ => 0)
      ⟨[.ptr y 0, .int .i64 key, .str label, .int .i64 nonce, .undef, .undef, .undef, .undef, .int .i64 0, .int .i64 0, .int .i64 0] ++ List.replicate 80 .undef, st⟩ ?_ ⟨0, by omega, rfl, rfl⟩ ?_
  · refine Forget.of ?_
    repeat first | exact fg_e | refine fg_d ?_ | refine fg_k rfl ?_
  rintro S ⟨i, hi, hg, rfl⟩
  by_cases him : i = V.n.length
  case neg =>
    have hil : i < V.n.length := by omega
    have hd : decide ((i : Int) < (V.n.length : Int)) = true := by simp; omega
    rw [List.drop_eq_getElem_cons hil] at hg
    simp only [mget] at hg
    rw [roV_some hil] at hu hla
    have e0 := fN_at hil 0 (by omega)
    have e1 := fN_at hil 1 (by omega)
    have e2 := fN_at hil 2 (by omega)
    rw [Nat.add_zero] at e0
    change _ = some (SV.int .i64 V.n[i].2) at e0
    change _ = some (SV.int .i64 V.n[i].1.1) at e1
    change _ = some (SV.str V.n[i].1.2) at e2
    have hb : ((key, label) == V.n[i].1) = (V.n[i].1.1 == key && V.n[i].1.2 == label) := by
      show (key == V.n[i].1.1 && label == V.n[i].1.2) = _
      rw [Bool.beq_comm, Bool.beq_comm (a := label)]
    rw [hb] at hg
    cases q1 : V.n[i].1.1 == key with
    | false =>
      rw [q1, Bool.false_and, if_neg (by simp)] at hg
      simp (maxSteps := 2000000) (disch := first | omega | (simp only [List.length_append, List.length_cons, List.length_nil, List.length_map] <;> omega)) only [h', hu, hla, hd, e1, q1, ev_fldE, grd_t, ev_pick, lpK_n, Int.toNat_natCast, flg_int, sk_idxB, idxB_ro, swp_seq, swp_reg, swp_skip, swp_block, swp_cond, seqK_n, blkK_n, condK_t, condK_f, evK_some, appK_eq, grd_t, srun_nil, srun_cons, stepK_grd, sk_mv, sk_give, sk_pick, sk_bin, sk_nilc, sk_fld, sk_load, sk_lenL, get_mk, raw_slot, raw_lit, put_some, wb_nil, ev_mv, ev_give, ev_pick, ev_nilc, ev_fld, bin_add, bin_eql, bin_lss, ev_ldP, ldP_some, ev_loadE, ro_int, ro_bool, ro_ptr, List.map_cons, List.map_nil, List.getD_cons_zero, List.getD_cons_succ, List.set_cons_zero, List.set_cons_succ, List.getElem?_cons_zero, List.getElem?_cons_succ, List.replicate_succ, List.replicate_zero, List.cons_append, List.nil_append, Bool.false_eq_true, Option.map_some, ↓reduceIte, Nat.zero_add, wrap_i64]
      refine ⟨_, ?_, ⟨i + 1, by omega, hg, rfl⟩, ?_⟩
      · refine Forget.of ?_
        repeat first | exact fg_e | refine fg_d ?_ | refine fg_k rfl ?_
      · show ((V.n.length : Int) - ((i + 1 : Nat) : Int)).toNat < ((V.n.length : Int) - (i : Int)).toNat
        omega
    | true =>
      cases q2 : V.n[i].1.2 == label with
      | false =>
        rw [q1, q2, Bool.and_false, if_neg (by simp)] at hg
        simp (maxSteps := 2000000) (disch := first | omega | (simp only [List.length_append, List.length_cons, List.length_nil, List.length_map] <;> omega)) only [h', hu, hla, hd, e1, e2, q1, q2, ev_fldE, grd_t, ev_pick, lpK_n, Int.toNat_natCast, flg_int, exc_int, exc_str, exc_ptr, sk_idxB, idxB_ro, swp_seq, swp_reg, swp_skip, swp_block, swp_cond, seqK_n, blkK_n, condK_t, condK_f, evK_some, appK_eq, grd_t, srun_nil, srun_cons, stepK_grd, sk_mv, sk_take, sk_give, sk_pick, sk_bin, sk_nilc, sk_fld, sk_load, sk_lenL, get_mk, raw_slot, raw_lit, put_some, wb_nil, ev_mv, ev_take, ev_give, ev_pick, ev_nilc, ev_fld, bin_add, bin_eql, bin_lss, bin_eqlS, ev_ldP, ldP_some, ev_loadE, ro_int, ro_bool, ro_str, ro_ptr, got_int, got_str, got_ptr, List.map_cons, List.map_nil, List.getD_cons_zero, List.getD_cons_succ, List.set_cons_zero, List.set_cons_succ, List.getElem?_cons_zero, List.getElem?_cons_succ, List.replicate_succ, List.replicate_zero, List.cons_append, List.nil_append, Bool.false_eq_true, Option.map_some, ↓reduceIte, Nat.zero_add, wrap_i64]
        refine ⟨_, ?_, ⟨i + 1, by omega, hg, rfl⟩, ?_⟩
        · refine Forget.of ?_
          repeat first | exact fg_e | refine fg_d ?_ | refine fg_k rfl ?_
        · show ((V.n.length : Int) - ((i + 1 : Nat) : Int)).toNat < ((V.n.length : Int) - (i : Int)).toNat
          omega
      | true =>
        rw [q1, q2, Bool.and_true, if_pos rfl] at hg
        rw [name_found hg.symm, hsame]
        simp (maxSteps := 2000000) (disch := first | omega | (simp only [List.length_append, List.length_cons, List.length_nil, List.length_map] <;> omega)) only [h', hu, hla, hd, e0, e1, e2, q1, q2, ev_fldE, Nat.add_zero, grd_t, ev_pick, lpK_r, Int.toNat_natCast, flg_int, exc_int, exc_str, exc_ptr, sk_idxB, idxB_ro, swp_seq, swp_reg, swp_skip, swp_ret, swp_block, swp_cond, seqK_n, seqK_r, blkK_r, condK_t, evK_some, appK_eq, grd_t, srun_nil, srun_cons, stepK_grd, fin_two, sk_mv, sk_take, sk_give, sk_pick, sk_bin, sk_nilc, sk_fld, sk_load, sk_lenL, get_mk, raw_slot, raw_lit, put_some, wb_nil, ev_mv, ev_take, ev_give, ev_pick, ev_nilc, ev_fld, bin_eql, bin_lss, bin_eqlS, ev_ldP, ldP_some, ev_loadE, ro_int, ro_bool, ro_str, ro_ptr, got_int, got_str, got_ptr, List.map_cons, List.map_nil, List.getD_cons_zero, List.getD_cons_succ, List.set_cons_zero, List.set_cons_succ, List.getElem?_cons_zero, List.getElem?_cons_succ, List.replicate_succ, List.replicate_zero, List.cons_append, List.nil_append, true_and, Bool.false_eq_true, Option.map_some, ↓reduceIte, Nat.zero_add]
        exact ⟨_, .same, rfl⟩
  subst him
  rw [List.drop_length] at hg
  have hd : decide ((V.n.length : Int) < (V.n.length : Int)) = false := by simp
  have d1 : decide ((16384 : Int) ≤ (V.n.length : Int)) = false := by simp; omega
  have htl : V.t.length = V.n.length := by rw [ht]; simp
  obtain ⟨a, ha⟩ : ∃ a, a = drawF (isT V) V.n.length (maskF nonce) := ⟨_, rfl⟩
  have hfree := isT_free V (by omega) nonce
  rw [htl, ← ha] at hfree
  have hR : drawF (isT V) (V.n.length + 1) (maskF nonce) = a := by rw [ha]; exact draw_more _ _ (by rw [← ha]; exact hfree)
  rw [name_fresh hg.symm (by omega), htl, ← ha, mput_fresh hg.symm]
  have em : ∀ st, ev st (.bin .and) [.int .i64 nonce, .int .i64 4294967295] = some (.int .i64 (maskF nonce), [], st) := fun _ => bin_and
  have hmr := mask_range nonce
  simp (maxSteps := 2000000) (disch := first | omega | (simp only [List.length_append, List.length_cons, List.length_nil, List.length_map] <;> omega)) only [d1, hd, em, h', hu, hla, lpK_e, flg_int, exc_int, swp_seq, swp_reg, swp_skip, swp_exit, swp_block, swp_cond, seqK_n, seqK_e, blkK_e, condK_f, evK_some, appK_eq, srun_nil, srun_cons, sk_mv, sk_take, sk_give, sk_bin, sk_nilc, sk_fld, sk_load, sk_lenL, get_mk, raw_slot, raw_lit, put_some, wb_nil, ev_mv, ev_take, ev_give, ev_nilc, ev_fld, bin_lss, bin_geq, ev_ldP, ldP_some, ro_int, ro_ptr, got_int, List.map_cons, List.map_nil, List.getD_cons_zero, List.getD_cons_succ, List.set_cons_zero, List.set_cons_succ, List.getElem?_cons_zero, List.getElem?_cons_succ, List.replicate_succ, List.replicate_zero, List.cons_append, List.nil_append, Bool.false_eq_true, Option.map_some, ↓reduceIte, Nat.zero_add, ge_iff_le]
  refine swp_lp (fun S => ∃ (i : Nat) (x : Int), i ≤ V.n.length + 1 ∧ 0 ≤ x ∧ x < 4294967296 ∧ drawF (isT V) (V.n.length + 1 - i) x = a ∧
      S = ⟨[.ptr y 0, .int .i64 key, .str label, .int .i64 nonce, .undef, .undef, .undef, .undef, .int .i64 0, .int .i64 0, .undef, .int .i64 x, .int .i64 i] ++ List.replicate 78 .undef, st⟩)
      (fun S => match S.get 12 with | .int _ k => ((V.n.length : Int) + 1 - k).toNat | _ => 0)
      ⟨[.ptr y 0, .int .i64 key, .str label, .int .i64 nonce, .undef, .undef, .undef, .undef, .int .i64 0, .int .i64 0, .undef, .int .i64 (maskF nonce), .int .i64 0] ++ List.replicate 78 .undef, st⟩ ?_ ⟨0, maskF nonce, by omega, hmr.1, hmr.2, hR, rfl⟩ ?_
  · refine Forget.of ?_
    repeat first | exact fg_e | refine fg_d ?_ | refine fg_k rfl ?_
  rintro S ⟨i, x, hi, x0, x1, hx, rfl⟩
  have hT : (V.n.any fun p => p.2 == x) = isT V x := by rw [nany_mget, ← ht]; rfl
  have c29 : O53 29 [.ptr y 0, .int .i64 x] st (.bool (isT V x)) st := .inl (.inr ⟨rfl, y, V, x, h, by omega, rfl, by rw [hT], rfl⟩)
  have app1 : V.n = [] → ∀ t, Yob { V with n := V.n ++ [((key, label), a)], t := t } = .cells [lv, .sl [.int .i64 a, .int .i64 key, .str label] 1 (.own 3)] := by
    intro e t; unfold Yob; rw [e, hlv]; rfl
  have app2 : V.n ≠ [] → ∀ t, Yob { V with n := V.n ++ [((key, label), a)], t := t } = .cells [lv, .sl (V.n.flatMap fN ++ [.int .i64 a, .int .i64 key, .str label]) (V.n.length + 1) (.own 3)] := by
    intro e t
    unfold Yob
    rw [ownV_some (by simp : V.n ++ [((key, label), a)] ≠ []), hlv]
    simp [fN]
  by_cases hend : isT V x = false ∨ i = V.n.length + 1
  · have hxa : x = a := by
      rcases hend with he | he
      · rw [← hx]
        cases V.n.length + 1 - i with
        | zero => rfl
        | succ f => simp [drawF, he]
      · rw [he, Nat.sub_self] at hx; exact hx
    subst hxa
    by_cases hil : i ≤ V.n.length
    · have hdi : decide ((i : Int) ≤ (V.n.length : Int)) = true := by simp; omega
      rw [hfree] at c29
      simp (maxSteps := 2000000) (disch := first | omega | (simp only [List.length_append, List.length_cons, List.length_nil, List.length_map] <;> omega)) only [hdi, h', hu, hla, grd_t, exc_int, exc_ptr, swp_seq, swp_reg, evK_some, appK_eq, grd_t, srun_cons, stepK_call, stepK_grd, sk_mv, sk_take, sk_bin, sk_nilc, sk_fld, sk_load, sk_lenL, get_mk, raw_slot, put_some, wb_nil, ev_mv, ev_take, ev_nilc, ev_fld, bin_leq, ev_ldP, ldP_some, ro_int, ro_bool, ro_ptr, got_int, got_ptr, pubs, pubsFrom, List.map_cons, List.map_nil, List.getD_cons_zero, List.getD_cons_succ, List.set_cons_zero, List.set_cons_succ, List.getElem?_cons_zero, List.getElem?_cons_succ, List.replicate_succ, List.replicate_zero, List.cons_append, List.nil_append, Bool.false_eq_true, Option.map_some, ↓reduceIte, Nat.zero_add]
      refine callK_intro c29 ?_
      by_cases e : V.n = []
      · have hl0 : nv = .nilS := by rw [hnv, e]; rfl
        rw [hl0] at h'
        rw [app1 e]
        simp (maxSteps := 2000000) (disch := first | omega | (simp only [List.length_append, List.length_cons, List.length_nil, List.length_map] <;> omega)) only [h', st_flX, ev_pick, lpK_e, sk_loadG, ev_loadG, apO_some, flg_int, flg_nilS, exc_int, exc_str, exc_agg, swp_seq, swp_reg, swp_ret, swp_exit, swp_cond, seqK_n, seqK_e, blkK_e, condK_f, evK_some, appK_eq, appC_eq, srun_nil, srun_cons, fin_two, sk_mv, sk_give, sk_pick, sk_nilc, sk_fld, sk_store, sk_bsl, sk_bld, sk_app, get_mk, raw_slot, raw_lit, put_some, put_none, wb_nil, wb_cons, ev_mv, ev_give, ev_pick, ev_nilc, ev_fld, ev_bsl, ev_bld, ro_int, ro_bool, ro_str, ro_nilS, ro_ptr, ro1_int, ro1_str, got_int, got_str, got_agg, pubs, pubsFrom, List.map_cons, List.map_nil, List.getD_cons_zero, List.getD_cons_succ, List.set_cons_zero, List.set_cons_succ, List.getElem?_cons_zero, List.getElem?_cons_succ, List.length_cons, List.length_nil, List.replicate_succ, List.replicate_zero, Nat.reduceAdd, Nat.reduceLeDiff, Nat.reduceLT, true_and, and_true, Bool.false_eq_true, Option.map_some, ↓reduceIte, List.all_cons, List.all_nil, Bool.and_self, List.zip_cons_cons, List.zip_nil_right, rep, fillV, wrCells, cellsV, isCell, List.flatten_cons, List.flatten_nil, List.append_nil, decide_true, Nat.zero_mul, Nat.zero_add, Nat.le_refl, app_nil]
        exact ⟨_, .same, rfl⟩
      · have hl0 : nv = .sl (V.n.flatMap fN) V.n.length (.own 3) := by rw [hnv]; exact ownV_some e
        rw [hl0] at h'
        rw [app2 e]
        simp (maxSteps := 2000000) (disch := first | omega | (simp only [List.length_append, List.length_cons, List.length_nil, List.length_map] <;> omega)) only [h', st_flO, ev_pick, lpK_e, app_own, sk_loadG, ev_loadG, apO_some, flg_int, flg_own, exc_int, exc_str, exc_agg, swp_seq, swp_reg, swp_ret, swp_exit, swp_cond, seqK_n, seqK_e, blkK_e, condK_f, evK_some, appK_eq, appC_eq, srun_nil, srun_cons, fin_two, sk_mv, sk_give, sk_pick, sk_nilc, sk_fld, sk_store, sk_bsl, sk_bld, sk_app, get_mk, raw_slot, raw_lit, put_some, put_none, wb_nil, wb_cons, ev_mv, ev_give, ev_pick, ev_nilc, ev_fld, ev_bsl, ev_bld, setOb_setOb, ro_int, ro_bool, ro_str, ro_ptr, ro_own, ro1_int, ro1_str, got_int, got_str, got_agg, pubs, pubsFrom, List.map_cons, List.map_nil, List.getD_cons_zero, List.getD_cons_succ, List.set_cons_zero, List.set_cons_succ, List.getElem?_cons_zero, List.getElem?_cons_succ, List.length_cons, List.length_nil, List.replicate_succ, List.replicate_zero, Nat.reduceAdd, Nat.reduceLeDiff, Nat.reduceLT, true_and, and_true, Bool.false_eq_true, Option.map_some, ↓reduceIte, List.all_cons, List.all_nil, Bool.and_self, List.zip_cons_cons, List.zip_nil_right, rep, fillV, wrCells, cellsV, isCell, List.flatten_cons, List.flatten_nil, List.append_nil, decide_true, Nat.zero_mul, Nat.zero_add, setOb_same, Nat.le_refl]
        exact ⟨_, .same, rfl⟩
    · have hdi : decide ((i : Int) ≤ (V.n.length : Int)) = false := by simp; omega
      by_cases e : V.n = []
      · have hl0 : nv = .nilS := by rw [hnv, e]; rfl
        rw [e] at hdi hla hu
        rw [hl0] at h'
        rw [app1 e]
        have hd' : decide ((i : Int) ≤ 0) = false := hdi
        simp (maxSteps := 2000000) (disch := first | omega | (simp only [List.length_append, List.length_cons, List.length_nil, List.length_map] <;> omega)) only [hd', h', st_flX, grd_t, ev_pick, lpK_e, sk_loadG, ev_loadG, apO_some, flg_int, flg_nilS, exc_int, exc_str, exc_agg, swp_seq, swp_reg, swp_ret, swp_exit, swp_cond, seqK_n, seqK_e, blkK_e, condK_f, evK_some, appK_eq, grd_t, srun_nil, srun_cons, stepK_grd, fin_two, sk_mv, sk_give, sk_pick, sk_bin, sk_nilc, sk_fld, sk_load, sk_store, sk_lenL, sk_bsl, sk_bld, sk_app, get_mk, raw_slot, raw_lit, put_some, put_none, wb_nil, wb_cons, ev_mv, ev_give, ev_pick, ev_nilc, ev_fld, ev_lenN, bin_leq, ev_bsl, ev_bld, ev_ldP, ldP_some, ro_int, ro_bool, ro_str, ro_nilS, ro_ptr, ro1_int, ro1_str, got_int, got_str, got_agg, pubs, pubsFrom, List.map_cons, List.map_nil, List.getD_cons_zero, List.getD_cons_succ, List.set_cons_zero, List.set_cons_succ, List.getElem?_cons_zero, List.getElem?_cons_succ, List.length_cons, List.length_nil, List.replicate_succ, List.replicate_zero, List.cons_append, List.nil_append, Nat.reduceAdd, Nat.reduceLeDiff, Nat.reduceLT, true_and, and_true, Bool.false_eq_true, Option.map_some, ↓reduceIte, List.all_cons, List.all_nil, Bool.and_self, List.zip_cons_cons, List.zip_nil_right, rep, fillV, wrCells, cellsV, isCell, List.flatten_cons, List.flatten_nil, List.append_nil, decide_true, Nat.zero_mul, Nat.zero_add, Nat.le_refl, app_nil]
        exact ⟨_, .same, rfl⟩
      · have hl0 : nv = .sl (V.n.flatMap fN) V.n.length (.own 3) := by rw [hnv]; exact ownV_some e
        rw [hl0] at h' hu
        rw [app2 e]
        simp (maxSteps := 2000000) (disch := first | omega | (simp only [List.length_append, List.length_cons, List.length_nil, List.length_map] <;> omega)) only [hdi, h', st_flO, grd_t, ev_pick, lpK_e, app_own, sk_loadG, ev_loadG, apO_some, flg_int, flg_own, exc_int, exc_str, exc_agg, swp_seq, swp_reg, swp_ret, swp_exit, swp_cond, seqK_n, seqK_e, blkK_e, condK_f, evK_some, appK_eq, grd_t, srun_nil, srun_cons, stepK_grd, fin_two, sk_mv, sk_give, sk_pick, sk_bin, sk_nilc, sk_fld, sk_load, sk_store, sk_lenL, sk_bsl, sk_bld, sk_app, get_mk, raw_slot, raw_lit, put_some, put_none, wb_nil, wb_cons, ev_mv, ev_give, ev_pick, ev_nilc, ev_fld, ev_lenL, bin_leq, ev_bsl, ev_bld, ev_ldP, ldP_some, setOb_setOb, ro_int, ro_bool, ro_str, ro_ptr, ro_own, ro1_int, ro1_str, got_int, got_str, got_agg, pubs, pubsFrom, List.map_cons, List.map_nil, List.getD_cons_zero, List.getD_cons_succ, List.set_cons_zero, List.set_cons_succ, List.getElem?_cons_zero, List.getElem?_cons_succ, List.length_cons, List.length_nil, List.replicate_succ, List.replicate_zero, List.cons_append, List.nil_append, Nat.reduceAdd, Nat.reduceLeDiff, Nat.reduceLT, true_and, and_true, Bool.false_eq_true, Option.map_some, ↓reduceIte, List.all_cons, List.all_nil, Bool.and_self, List.zip_cons_cons, List.zip_nil_right, rep, fillV, wrCells, cellsV, isCell, List.flatten_cons, List.flatten_nil, List.append_nil, decide_true, Nat.zero_mul, Nat.zero_add, setOb_same, Nat.le_refl]
        exact ⟨_, .same, rfl⟩
  · have hxt : isT V x = true := by
      cases hh : isT V x with
      | true => rfl
      | false => exact absurd (.inl hh) hend
    have hil : i ≤ V.n.length := by
      rcases Nat.lt_or_ge V.n.length i with hlt | hge
      · exact absurd (.inr (by omega)) hend
      · exact hge
    have hdi : decide ((i : Int) ≤ (V.n.length : Int)) = true := by simp; omega
    rw [hxt] at c29
    have hs := step_eq x0
    have e1 : ∀ st, ev st (.bin .and) [.int .i64 (x + 1), .int .i64 4294967295] = some (.int .i64 (stepI x), [], st) := fun st => by
      rw [bin_and]
      have := mask_eq (x + 1)
      unfold maskF at this
      rw [this, hs]
    rw [show V.n.length + 1 - i = (V.n.length + 1 - (i + 1)) + 1 by omega] at hx
    simp only [drawF, hxt, if_true] at hx
    simp (maxSteps := 2000000) (disch := first | omega | (simp only [List.length_append, List.length_cons, List.length_nil, List.length_map] <;> omega)) only [hdi, h', hu, hla, grd_t, exc_int, exc_ptr, swp_seq, swp_reg, evK_some, appK_eq, grd_t, srun_cons, stepK_call, stepK_grd, sk_mv, sk_take, sk_bin, sk_nilc, sk_fld, sk_load, sk_lenL, get_mk, raw_slot, put_some, wb_nil, ev_mv, ev_take, ev_nilc, ev_fld, bin_leq, ev_ldP, ldP_some, ro_int, ro_bool, ro_ptr, got_int, got_ptr, pubs, pubsFrom, List.map_cons, List.map_nil, List.getD_cons_zero, List.getD_cons_succ, List.set_cons_zero, List.set_cons_succ, List.getElem?_cons_zero, List.getElem?_cons_succ, List.replicate_succ, List.replicate_zero, List.cons_append, List.nil_append, Bool.false_eq_true, Option.map_some, ↓reduceIte, Nat.zero_add]
    refine callK_intro c29 ?_
    simp (maxSteps := 2000000) (disch := first | omega | (simp only [List.length_append, List.length_cons, List.length_nil, List.length_map] <;> omega)) only [e1, ev_pick, lpK_n, flg_int, swp_seq, swp_reg, swp_skip, swp_block, swp_cond, seqK_n, blkK_n, condK_t, evK_some, appK_eq, appC_eq, srun_nil, srun_cons, sk_mv, sk_give, sk_pick, sk_bin, get_mk, raw_slot, raw_lit, put_some, wb_nil, ev_mv, ev_give, ev_pick, bin_add, ro_int, ro_bool, List.map_cons, List.map_nil, List.getD_cons_zero, List.getD_cons_succ, List.set_cons_zero, List.set_cons_succ, Bool.false_eq_true, ↓reduceIte, wrap_i64]
    refine ⟨_, ?_, ⟨i + 1, stepI x, by omega, by rw [hs]; omega, by rw [hs]; omega, hx, rfl⟩, ?_⟩
    · refine Forget.of ?_
      repeat first | exact fg_e | refine fg_d ?_ | refine fg_k rfl ?_
    · show ((V.n.length : Int) + 1 - ((i + 1 : Nat) : Int)).toNat < ((V.n.length : Int) + 1 - (i : Int)).toNat
      omega
end Go.Sh.F
