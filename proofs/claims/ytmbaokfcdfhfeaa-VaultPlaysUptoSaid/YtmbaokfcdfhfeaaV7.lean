/-
  VaultTwice, in the shadow machine.
-/
import Derived.Test.YtmbaokfcdfhfeaaV6
set_option linter.unusedSimpArgs false
set_option linter.unusedVariables false
namespace Go.Sh.F
theorem bkt_len (s : List UInt8) : bucketF s.length < 0 ∨ 0 ≤ bucketF s.length := by omega
theorem seal_no {V : VS} {key : Int} {ad plain : List UInt8} {nonce : Int} (h : bucketF plain.length < 0) : sealF V key ad plain nonce = ((0, 5), V) := by unfold sealF; rw [if_pos h]
theorem seal_yes {V : VS} {key : Int} {ad plain : List UInt8} {nonce : Int} (h : ¬ bucketF plain.length < 0) (hl : V.s.length < 16384) : sealF V key ad plain nonce = ((drawF (isS V) V.s.length (maskF nonce), 0), { V with s := mput (drawF (isS V) V.s.length (maskF nonce)) (key, ad, plain) V.s }) := by
  unfold sealF; rw [if_neg h, if_neg (by omega)]
def K2 (c d : Cl) : List Ob := [.cells (fC c), .cells (fC d)]
theorem K2_ok (c d : Cl) : okSt (K2 c d) := by simp [okSt, K2, obOk, fC, idOks, idOk]
set_option maxHeartbeats 2000000 in
set_option maxRecDepth 50000 in
theorem fTwice (c d : Cl) (hc : c.ad.length ≤ 1099511627776 ∧ c.plain.length ≤ 1099511627776) (hd : d.ad.length ≤ 1099511627776 ∧ d.plain.length ≤ 1099511627776) : swpF O49 sf9 [.agg (fC c), .agg (fC d)] [] (fun r _ => r = .bool true) := by
  have ho := K2_ok c d
  have b1 : ∀ st, ev st .box [.agg (fC c)] = some (.ptr st.length 0, [], st ++ [.cells (fC c)]) := fun _ => rfl
  have b2 : ∀ st, ev st .box [.agg (fC d)] = some (.ptr st.length 0, [], st ++ [.cells (fC d)]) := fun _ => rfl
  have l1 : ev (K2 c d) (.load 5 true) [.ptr 0 0] = some (.agg (fC c), [], K2 c d) := rfl
  have l2 : ev (K2 c d) (.load 5 true) [.ptr 1 0] = some (.agg (fC d), [], K2 c d) := rfl
  have hbs : ∀ st, ev st (.bsl 5 2 [.int .i64 0, .int .i64 0, .int .i64 0, .str [], .str []] [0, 1]) [.agg (fC c), .agg (fC d)] = some (.sl ([c, d].flatMap fC) 2 (.excl 5), [], st) := fun _ => rfl
  have hst : [Ob.cells (fC c), Ob.cells (fC d)] = K2 c d := rfl
  simp (maxSteps := 2000000) (disch := first | omega | (simp only [List.length_append, List.length_cons, List.length_nil, List.length_map] <;> omega)) only [sf9, b1, b2, flg_bool, swp_seq, swp_reg, seqK_n, evK_some, appK_eq, srun_nil, srun_cons, stepK_call, swpF_eq, sk_give, sk_box, get_mk, raw_slot, raw_lit, put_some, wb_nil, ev_give, ro_bool, pubs, pubsFrom, List.map_cons, List.map_nil, List.getD_cons_zero, List.getD_cons_succ, List.set_cons_zero, List.set_cons_succ, List.length_cons, List.length_nil, List.replicate_succ, List.replicate_zero, List.cons_append, List.nil_append, Nat.reduceAdd, Nat.reduceSub, Bool.false_eq_true, ↓reduceIte, Nat.zero_add]
  rw [hst]
  refine callK_intro (h10 ho) ?_
  simp (maxSteps := 2000000) (disch := first | omega | (simp only [List.length_append, List.length_cons, List.length_nil, List.length_map] <;> omega)) only [l1, l2, hbs, pub_excl2, flg_bool, exc_excl, swp_seq, swp_reg, seqK_n, evK_some, appK_eq, appC_eq, srun_nil, srun_cons, stepK_call, sk_give, sk_load, sk_bsl, get_mk, raw_slot, put_some, wb_nil, ev_give, ro_bool, got_excl, pubs, pubsFrom, List.map_cons, List.map_nil, List.getD_cons_zero, List.getD_cons_succ, List.set_cons_zero, List.set_cons_succ, Bool.false_eq_true, ↓reduceIte]
  refine callK_intro (.inl (few_ok (l := [c, d]) (.inr rfl) (by simp) (by simp; exact ⟨hc, hd⟩) _)) ?_
  simp (maxSteps := 2000000) (disch := first | omega | (simp only [List.length_append, List.length_cons, List.length_nil, List.length_map] <;> omega)) only [flg_bool, swp_seq, swp_reg, seqK_n, evK_some, appK_eq, appC_eq, srun_nil, srun_cons, stepK_call, sk_give, get_mk, raw_slot, put_some, wb_nil, wb_cons, ev_give, ro_bool, pubs, pubsFrom, List.map_cons, List.map_nil, List.getD_cons_zero, List.getD_cons_succ, List.set_cons_zero, List.set_cons_succ, List.getElem?_cons_zero, Bool.false_eq_true, ↓reduceIte]
  refine callK_intro (.inl (h12 _)) ?_
  cases hf : fewF [c, d] with
  | false =>
    simp (maxSteps := 2000000) (disch := first | omega | (simp only [List.length_append, List.length_cons, List.length_nil, List.length_map] <;> omega)) only [grd_t, ev_pick, flg_bool, flg_ptr, exc_bool, exc_ptr, swp_seq, swp_reg, swp_ret, swp_cond, seqK_n, seqK_r, condK_t, evK_some, appK_eq, appC_eq, grd_t, srun_nil, srun_cons, stepK_grd, fin_ret, sk_mv, sk_take, sk_give, sk_pick, sk_eqN, sk_un, get_mk, raw_slot, raw_lit, put_some, wb_nil, ev_mv, ev_take, ev_give, ev_pick, ev_not, ev_eqNp2, ro_bool, ro_ptr, got_bool, got_ptr, List.map_cons, List.map_nil, List.getD_cons_zero, List.getD_cons_succ, List.set_cons_zero, List.set_cons_succ, List.length_nil, and_true, Bool.false_eq_true, ↓reduceIte, Bool.not_false]
    exact ⟨[], .inr ⟨by simp, by simp, rfl, rfl⟩⟩
  | true =>
    have g : ∀ (V : VS) (i : Nat) (o : Ob), (K2 c d)[i]? = some o → (Sp (K2 c d) V)[i]? = some o := fun V i o h => get_app h
    have g0 : ∀ V, (Sp (K2 c d) V)[0]? = some (.cells (fC c)) := fun V => g V 0 _ rfl
    have g1 : ∀ V, (Sp (K2 c d) V)[1]? = some (.cells (fC d)) := fun V => g V 1 _ rfl
    rcases bkt_len c.plain with hb | hb
    · simp (maxSteps := 2000000) (disch := first | omega | (simp only [List.length_append, List.length_cons, List.length_nil, List.length_map] <;> omega)) only [grd_t, ev_pick, g0, fC, flg_ptr, exc_bool, exc_int, exc_str, exc_ptr, swp_seq, swp_reg, swp_skip, swp_cond, seqK_n, condK_f, evK_some, appK_eq, appC_eq, grd_t, srun_nil, srun_cons, stepK_call, stepK_grd, sk_mv, sk_take, sk_give, sk_pick, sk_eqN, sk_un, sk_fld, sk_load, get_mk, raw_slot, raw_lit, put_some, wb_nil, ev_mv, ev_take, ev_give, ev_pick, ev_not, ev_fld, ev_eqNp2, ev_ldP, ldP_some, ro_int, ro_bool, ro_str, ro_ptr, got_int, got_bool, got_str, got_ptr, pubs, pubsFrom, List.map_cons, List.map_nil, List.getD_cons_zero, List.getD_cons_succ, List.set_cons_zero, List.set_cons_succ, List.getElem?_cons_zero, List.getElem?_cons_succ, Bool.false_eq_true, Option.map_some, ↓reduceIte, Nat.zero_add, Bool.not_true]
      refine callK_intro (.inl (h13 ho rfl (by decide) (seal_no hb))) ?_
      simp (maxSteps := 2000000) (disch := first | omega | (simp only [List.length_append, List.length_cons, List.length_nil, List.length_map] <;> omega)) only [g0, g1, fC, flg_int, exc_int, exc_str, exc_ptr, swp_seq, swp_reg, seqK_n, evK_some, appK_eq, appC_eq, srun_nil, srun_cons, stepK_call, sk_mv, sk_give, sk_fld, sk_load, sk_ext, get_mk, raw_slot, put_some, wb_nil, ev_mv, ev_give, ev_fld, ev_ext, ev_ldP, ldP_some, ro_int, ro_str, ro_ptr, ro_tup, ro2_int, got_int, got_str, got_ptr, pubs, pubsFrom, List.map_cons, List.map_nil, List.getD_cons_zero, List.getD_cons_succ, List.set_cons_zero, List.set_cons_succ, List.getElem?_cons_zero, List.getElem?_cons_succ, Bool.false_eq_true, Option.map_some, ↓reduceIte, Nat.zero_add]
      refine callK_intro (.inl (h13 ho rfl (by decide) (seal_no hb))) ?_
      simp (maxSteps := 2000000) (disch := first | omega | (simp only [List.length_append, List.length_cons, List.length_nil, List.length_map] <;> omega)) only [grd_t, ev_pick, flg_int, exc_int, exc_ptr, swp_seq, swp_reg, swp_cond, seqK_n, condK_t, evK_some, appK_eq, appC_eq, grd_t, srun_nil, srun_cons, stepK_call, stepK_grd, sk_mv, sk_take, sk_give, sk_pick, sk_bin, sk_ext, get_mk, raw_slot, raw_lit, put_some, wb_nil, ev_mv, ev_take, ev_give, ev_pick, ev_ext, bin_eql, bin_neq, ro_int, ro_bool, ro_tup, ro2_int, got_int, got_ptr, pubs, pubsFrom, List.map_cons, List.map_nil, List.getD_cons_zero, List.getD_cons_succ, List.set_cons_zero, List.set_cons_succ, List.getElem?_cons_zero, List.getElem?_cons_succ, Bool.false_eq_true, Option.map_some, ↓reduceIte, beq_self_eq_true, Int.reduceBNe]
      refine callK_intro (.inl (h21 rfl)) ?_
      simp (maxSteps := 2000000) (disch := first | omega | (simp only [List.length_append, List.length_cons, List.length_nil, List.length_map] <;> omega)) only [show V0.s.length = 0 from rfl, grd_t, ev_pick, flg_bool, swp_ret, seqK_n, seqK_r, evK_some, appK_eq, appC_eq, grd_t, srun_nil, srun_cons, stepK_grd, fin_ret, sk_give, sk_pick, sk_bin, get_mk, raw_slot, raw_lit, put_some, wb_nil, ev_give, ev_pick, bin_eql, ro_bool, List.map_cons, List.map_nil, List.getD_cons_zero, List.getD_cons_succ, List.set_cons_zero, List.set_cons_succ, List.length_nil, and_true, Bool.false_eq_true, ↓reduceIte, beq_self_eq_true, Int.cast_ofNat_Int]
      exact ⟨[], .inr ⟨by simp, by simp, rfl, rfl⟩⟩
    · have hb' : ¬ bucketF c.plain.length < 0 := by omega
      obtain ⟨a, ha⟩ : ∃ a, a = maskF c.num := ⟨_, rfl⟩
      have r1 : sealF V0 c.key c.ad c.plain c.num = ((a, 0), ⟨[(a, c.key, c.ad, c.plain)], [], []⟩) := by rw [seal_yes hb' (by decide), ha]; rfl
      obtain ⟨b, hb2⟩ : ∃ b, b = drawF (isS ⟨[(a, c.key, c.ad, c.plain)], [], []⟩) 1 (maskF d.num) := ⟨_, rfl⟩
      have hfree := isS_free ⟨[(a, c.key, c.ad, c.plain)], [], []⟩ (by simp) d.num
      rw [show (VS.s ⟨[(a, c.key, c.ad, c.plain)], [], []⟩).length = 1 from rfl, ← hb2] at hfree
      have hne : (b == a) = false := by
        cases h : b == a with
        | false => rfl
        | true => simp [isS, mget, h] at hfree
      have hne2 : (a == b) = false := by rw [Bool.beq_comm] at hne; exact hne
      have r2 : sealF ⟨[(a, c.key, c.ad, c.plain)], [], []⟩ c.key c.ad c.plain d.num = ((b, 0), ⟨[(a, c.key, c.ad, c.plain), (b, c.key, c.ad, c.plain)], [], []⟩) := by
        rw [seal_yes hb' (by simp)]
        simp only [List.length_cons, List.length_nil, Nat.zero_add]
        rw [← hb2]
        simp [mput, hne]
      have o1 : openF ⟨[(a, c.key, c.ad, c.plain), (b, c.key, c.ad, c.plain)], [], []⟩ c.key c.ad a = (c.plain, 0) := by simp [openF, mget]
      have o2 : openF ⟨[(a, c.key, c.ad, c.plain), (b, c.key, c.ad, c.plain)], [], []⟩ c.key c.ad b = (c.plain, 0) := by simp [openF, mget, hne]
      have e1 : (a != b) = true := by simp [bne, hne2]
      have e2 : (c.plain == c.plain) = true := by simp
      simp (maxSteps := 2000000) (disch := first | omega | (simp only [List.length_append, List.length_cons, List.length_nil, List.length_map] <;> omega)) only [grd_t, ev_pick, g0, fC, flg_ptr, exc_bool, exc_int, exc_str, exc_ptr, swp_seq, swp_reg, swp_skip, swp_cond, seqK_n, condK_f, evK_some, appK_eq, appC_eq, grd_t, srun_nil, srun_cons, stepK_call, stepK_grd, sk_mv, sk_take, sk_give, sk_pick, sk_eqN, sk_un, sk_fld, sk_load, get_mk, raw_slot, raw_lit, put_some, wb_nil, ev_mv, ev_take, ev_give, ev_pick, ev_not, ev_fld, ev_eqNp2, ev_ldP, ldP_some, ro_int, ro_bool, ro_str, ro_ptr, got_int, got_bool, got_str, got_ptr, pubs, pubsFrom, List.map_cons, List.map_nil, List.getD_cons_zero, List.getD_cons_succ, List.set_cons_zero, List.set_cons_succ, List.getElem?_cons_zero, List.getElem?_cons_succ, Bool.false_eq_true, Option.map_some, ↓reduceIte, Nat.zero_add, Bool.not_true]
      refine callK_intro (.inl (h13 ho rfl (by decide) r1)) ?_
      simp (maxSteps := 2000000) (disch := first | omega | (simp only [List.length_append, List.length_cons, List.length_nil, List.length_map] <;> omega)) only [g0, g1, fC, flg_int, exc_int, exc_str, exc_ptr, swp_seq, swp_reg, seqK_n, evK_some, appK_eq, appC_eq, srun_nil, srun_cons, stepK_call, sk_mv, sk_give, sk_fld, sk_load, sk_ext, get_mk, raw_slot, put_some, wb_nil, ev_mv, ev_give, ev_fld, ev_ext, ev_ldP, ldP_some, ro_int, ro_str, ro_ptr, ro_tup, ro2_int, got_int, got_str, got_ptr, pubs, pubsFrom, List.map_cons, List.map_nil, List.getD_cons_zero, List.getD_cons_succ, List.set_cons_zero, List.set_cons_succ, List.getElem?_cons_zero, List.getElem?_cons_succ, Bool.false_eq_true, Option.map_some, ↓reduceIte, Nat.zero_add]
      refine callK_intro (.inl (h13 ho rfl (by simp) r2)) ?_
      simp (maxSteps := 2000000) (disch := first | omega | (simp only [List.length_append, List.length_cons, List.length_nil, List.length_map] <;> omega)) only [g0, fC, flg_int, exc_int, exc_str, exc_ptr, swp_seq, swp_reg, swp_skip, swp_cond, seqK_n, condK_f, evK_some, appK_eq, appC_eq, srun_nil, srun_cons, stepK_call, sk_mv, sk_give, sk_bin, sk_fld, sk_load, sk_ext, get_mk, raw_slot, raw_lit, put_some, wb_nil, ev_mv, ev_give, ev_fld, ev_ext, bin_neq, ev_ldP, ldP_some, ro_int, ro_str, ro_ptr, ro_tup, ro2_int, got_int, got_str, got_ptr, pubs, pubsFrom, List.map_cons, List.map_nil, List.getD_cons_zero, List.getD_cons_succ, List.set_cons_zero, List.set_cons_succ, List.getElem?_cons_zero, List.getElem?_cons_succ, Bool.false_eq_true, Option.map_some, ↓reduceIte, Nat.zero_add, bne_self_eq_false]
      refine callK_intro (.inl (h15 ho rfl o1)) ?_
      simp (maxSteps := 2000000) (disch := first | omega | (simp only [List.length_append, List.length_cons, List.length_nil, List.length_map] <;> omega)) only [g0, fC, flg_int, flg_str, exc_int, exc_str, exc_ptr, swp_seq, swp_reg, seqK_n, evK_some, appK_eq, appC_eq, srun_nil, srun_cons, stepK_call, sk_mv, sk_give, sk_fld, sk_load, sk_ext, get_mk, raw_slot, put_some, wb_nil, ev_mv, ev_give, ev_fld, ev_ext, ev_ldP, ldP_some, ro_int, ro_str, ro_ptr, ro_tup, ro2_int, ro2_str, got_int, got_str, got_ptr, pubs, pubsFrom, List.map_cons, List.map_nil, List.getD_cons_zero, List.getD_cons_succ, List.set_cons_zero, List.set_cons_succ, List.getElem?_cons_zero, List.getElem?_cons_succ, Bool.false_eq_true, Option.map_some, ↓reduceIte, Nat.zero_add]
      refine callK_intro (.inl (h15 ho rfl o2)) ?_
      simp (maxSteps := 2000000) (disch := first | omega | (simp only [List.length_append, List.length_cons, List.length_nil, List.length_map] <;> omega)) only [grd_t, ev_pick, g0, fC, e1, e2, flg_int, flg_str, exc_int, exc_str, exc_ptr, swp_seq, swp_reg, seqK_n, evK_some, appK_eq, appC_eq, grd_t, srun_nil, srun_cons, stepK_call, stepK_grd, sk_mv, sk_take, sk_give, sk_pick, sk_bin, sk_fld, sk_load, sk_ext, get_mk, raw_slot, raw_lit, put_some, wb_nil, ev_mv, ev_take, ev_give, ev_pick, ev_fld, ev_ext, bin_eql, bin_neq, bin_eqlS, ev_ldP, ldP_some, ro_int, ro_bool, ro_str, ro_tup, ro2_int, ro2_str, got_int, got_str, got_ptr, pubs, pubsFrom, List.map_cons, List.map_nil, List.getD_cons_zero, List.getD_cons_succ, List.set_cons_zero, List.set_cons_succ, List.getElem?_cons_zero, List.getElem?_cons_succ, Bool.false_eq_true, Option.map_some, ↓reduceIte, Nat.zero_add, beq_self_eq_true]
      refine callK_intro (.inl (h21 rfl)) ?_
      simp (maxSteps := 2000000) (disch := first | omega | (simp only [List.length_append, List.length_cons, List.length_nil, List.length_map] <;> omega)) only [grd_t, ev_pick, flg_bool, swp_ret, seqK_n, evK_some, appK_eq, appC_eq, grd_t, srun_nil, srun_cons, stepK_grd, fin_ret, sk_give, sk_pick, sk_bin, get_mk, raw_slot, raw_lit, put_some, wb_nil, ev_give, ev_pick, bin_eql, ro_bool, List.map_cons, List.map_nil, List.getD_cons_zero, List.getD_cons_succ, List.set_cons_zero, List.set_cons_succ, List.length_cons, List.length_nil, Nat.reduceAdd, and_true, Bool.false_eq_true, ↓reduceIte, Nat.zero_add, beq_self_eq_true, Int.cast_ofNat_Int]
      exact ⟨[], .inr ⟨by simp, by simp, rfl, rfl⟩⟩
end Go.Sh.F
