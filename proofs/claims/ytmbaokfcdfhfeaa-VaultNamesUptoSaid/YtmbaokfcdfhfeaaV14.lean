/-
  VaultNames, in the shadow machine.
-/
import Derived.Test.YtmbaokfcdfhfeaaV13
set_option linter.unusedSimpArgs false
set_option linter.unusedVariables false
namespace Go.Sh.F
def ownI (v : SV) (l : List Int) : Prop := (v = .nilS ∧ l = []) ∨ (l ≠ [] ∧ v = .sl (l.map (.int .i64)) l.length (.own 1))
theorem ownI_some {v : SV} {l : List Int} (h : ownI v l) {i : Nat} (hi : i < l.length) : v = .sl (l.map (.int .i64)) l.length (.own 1) := by
  rcases h with ⟨_, rfl⟩ | ⟨_, h⟩
  · simp at hi
  · exact h
set_option maxHeartbeats 8000000 in
set_option maxRecDepth 50000 in
theorem fNames (v : SV) (l : List Cl) (key : Int) (more : List UInt8) (hv : rdR fC v l) (hl : l.length ≤ 1048576) (hs : ∀ c ∈ l, c.ad.length ≤ 1048576 ∧ c.plain.length ≤ 1048576) (hg : ∀ c ∈ l, -9223372036854775808 ≤ c.key ∧ c.key ≤ 9223372036854775807) :
    swpF O49 sf6 [v, .int .i64 key, .str more] [] (fun r _ => r = .bool true) := by
  have ho : okSt [] := okSt_nil
  obtain ⟨hro, hgot, hexc, hflg, hla⟩ := rdR_facts hv
  simp (maxSteps := 2000000) (disch := first | omega | (simp only [List.length_append, List.length_cons, List.length_nil, List.length_map] <;> omega)) only [sf6, flg_bool, swp_seq, swp_reg, seqK_n, evK_some, appK_eq, srun_nil, srun_cons, stepK_call, swpF_eq, sk_give, raw_lit, put_some, wb_nil, ev_give, ro_bool, pubs, pubsFrom, List.map_cons, List.map_nil, List.set_cons_zero, List.set_cons_succ, List.length_cons, List.length_nil, List.replicate_succ, List.replicate_zero, List.cons_append, List.nil_append, Nat.reduceAdd, Nat.reduceSub, Bool.false_eq_true, ↓reduceIte, Nat.zero_add]
  refine callK_intro (h10 ho) ?_
  simp (maxSteps := 2000000) (disch := first | omega | (simp only [List.length_append, List.length_cons, List.length_nil, List.length_map] <;> omega)) only [hro, hgot, hexc, flg_bool, swp_seq, swp_reg, seqK_n, evK_some, appK_eq, appC_eq, srun_nil, srun_cons, stepK_call, sk_mv, sk_give, get_mk, raw_slot, put_some, wb_nil, ev_mv, ev_give, ro_bool, pubs, pubsFrom, List.map_cons, List.map_nil, List.getD_cons_zero, List.getD_cons_succ, List.set_cons_zero, List.set_cons_succ, Bool.false_eq_true, ↓reduceIte]
  refine callK_intro (.inl (few_ok hv (by omega) (fun c hc => by have := hs c hc; omega) _)) ?_
  simp (maxSteps := 2000000) (disch := first | omega | (simp only [List.length_append, List.length_cons, List.length_nil, List.length_map] <;> omega)) only [flg_bool, swp_seq, swp_reg, seqK_n, evK_some, appK_eq, appC_eq, srun_nil, srun_cons, stepK_call, sk_give, get_mk, raw_slot, put_some, wb_nil, ev_give, ro_bool, pubs, pubsFrom, List.map_cons, List.map_nil, List.getD_cons_zero, List.getD_cons_succ, List.set_cons_zero, List.set_cons_succ, Bool.false_eq_true, ↓reduceIte]
  refine callK_intro (.inl (h12 _)) ?_
  simp (maxSteps := 2000000) (disch := first | omega | (simp only [List.length_append, List.length_cons, List.length_nil, List.length_map] <;> omega)) only [flg_ptr, swp_seq, swp_reg, seqK_n, evK_some, appK_eq, appC_eq, srun_nil, srun_cons, stepK_call, sk_give, get_mk, raw_slot, put_some, wb_nil, ev_give, ro_ptr, pubs, pubsFrom, List.map_cons, List.map_nil, List.getD_cons_zero, List.getD_cons_succ, List.set_cons_zero, List.set_cons_succ, List.length_nil, Bool.false_eq_true, ↓reduceIte, Nat.zero_add]
  refine callK_intro (.inl d12) ?_
  cases hf : fewF l with
  | false =>
    simp (maxSteps := 2000000) (disch := first | omega | (simp only [List.length_append, List.length_cons, List.length_nil, List.length_map] <;> omega)) only [grd_t, ev_pick, flg_bool, flg_ptr, exc_bool, exc_ptr, swp_seq, swp_reg, swp_ret, swp_cond, seqK_n, seqK_r, condK_t, evK_some, appK_eq, appC_eq, grd_t, srun_nil, srun_cons, stepK_grd, fin_ret, sk_mv, sk_take, sk_give, sk_pick, sk_eqN, sk_un, get_mk, raw_slot, raw_lit, put_some, wb_nil, ev_mv, ev_take, ev_give, ev_pick, ev_not, ev_eqNp2, ro_bool, ro_ptr, got_bool, got_ptr, List.map_cons, List.map_nil, List.getD_cons_zero, List.getD_cons_succ, List.set_cons_zero, List.set_cons_succ, List.length_nil, and_true, Bool.false_eq_true, ↓reduceIte, reduceCtorEq, Bool.not_false]
    exact ⟨[], .inr ⟨by simp, by simp, rfl, rfl⟩⟩
  | true =>
  have hf2 : l.length ≤ 100 := by
    unfold fewF at hf
    simp only [Bool.and_eq_true, decide_eq_true_eq] at hf
    exact hf.2
  by_cases hml : more.length ≤ 100
  case neg =>
    have d0 : decide ((100 : Int) < (more.length : Int)) = true := by simp; omega
    simp (maxSteps := 2000000) (disch := first | omega | (simp only [List.length_append, List.length_cons, List.length_nil, List.length_map] <;> omega)) only [d0, grd_t, ev_pick, flg_bool, flg_ptr, exc_bool, exc_str, exc_ptr, swp_seq, swp_reg, swp_ret, swp_cond, seqK_n, seqK_r, condK_t, evK_some, appK_eq, appC_eq, grd_t, srun_nil, srun_cons, stepK_grd, fin_ret, sk_mv, sk_take, sk_give, sk_pick, sk_bin, sk_eqN, sk_un, sk_lenS, get_mk, raw_slot, raw_lit, put_some, wb_nil, ev_mv, ev_take, ev_give, ev_pick, ev_not, ev_lenS, ev_eqNp2, bin_gtr, ro_bool, ro_ptr, got_bool, got_str, got_ptr, List.map_cons, List.map_nil, List.getD_cons_zero, List.getD_cons_succ, List.set_cons_zero, List.set_cons_succ, List.length_nil, and_true, Bool.false_eq_true, ↓reduceIte, Bool.not_true, gt_iff_lt]
    exact ⟨[], .inr ⟨by simp, by simp, rfl, rfl⟩⟩
  have d0 : decide ((100 : Int) < (more.length : Int)) = false := by simp; omega
  have h5 := fC_len l
  simp (maxSteps := 2000000) (disch := first | omega | (simp only [List.length_append, List.length_cons, List.length_nil, List.length_map] <;> omega)) only [d0, grd_t, ev_pick, flg_ptr, exc_bool, exc_int, exc_str, exc_nilS, exc_ptr, swp_seq, swp_reg, swp_skip, swp_block, swp_cond, seqK_n, condK_f, evK_some, appK_eq, appC_eq, grd_t, srun_nil, srun_cons, stepK_grd, sk_mv, sk_take, sk_give, sk_pick, sk_bin, sk_eqN, sk_un, sk_lenS, get_mk, raw_slot, raw_lit, put_some, wb_nil, ev_mv, ev_take, ev_give, ev_pick, ev_not, ev_lenS, ev_eqNp2, bin_gtr, ro_bool, ro_ptr, got_int, got_bool, got_str, got_nilS, got_ptr, List.map_cons, List.map_nil, List.getD_cons_zero, List.getD_cons_succ, List.set_cons_zero, List.set_cons_succ, Bool.false_eq_true, ↓reduceIte, Bool.not_true, gt_iff_lt]
  refine swp_lp (fun S => ∃ (i : Nat) (xs : List Int) (N : List (Ky × Int)) (T : List (Int × Bool)) (nv : SV), i ≤ l.length ∧ Nm l i xs N T ∧ ownI nv xs ∧
      S = ⟨[v, .int .i64 key, .str more, .undef, .undef, .undef, .bool false, .bool true, .bool true, .ptr 3 0, .ptr 7 0, nv, .int .i64 i] ++ List.replicate 136 .undef, D3 ⟨[], N, T⟩ ⟨[], N.map fun p => (phi key more p.1, p.2), T⟩ []⟩)
      (fun S => match S.get 12 with | .int _ k => ((l.length : Int) - k).toNat | _ => 0)
      ⟨[v, .int .i64 key, .str more, .undef, .undef, .undef, .bool false, .bool true, .bool true, .ptr 3 0, .ptr 7 0, .nilS, .int .i64 0] ++ List.replicate 136 .undef, D3 ⟨[], [], []⟩ ⟨[], ([] : List (Ky × Int)).map fun p => (phi key more p.1, p.2), []⟩ []⟩ ?_ ⟨0, [], [], [], .nilS, by omega, ⟨rfl, fun j h => by omega, fun p hp => by simp at hp, fun p hp => by simp at hp, by simp, by simp, fun p hp => by simp at hp⟩, .inl ⟨rfl, rfl⟩, rfl⟩ ?_
  · refine Forget.of ?_
    repeat first | exact fg_e | refine fg_d ?_ | refine fg_k rfl ?_
  rintro S ⟨i, xs, N, T, nv, hi, hn, onv, rfl⟩
  by_cases him : i = l.length
  · subst him
    have hd : decide ((l.length : Int) < (l.length : Int)) = false := by simp
    simp (maxSteps := 2000000) (disch := first | omega | (simp only [List.length_append, List.length_cons, List.length_nil, List.length_map] <;> omega)) only [hd, hla, lpK_e, flg_bool, swp_seq, swp_reg, swp_ret, swp_exit, swp_cond, seqK_n, seqK_e, blkK_e, condK_f, evK_some, appK_eq, srun_nil, srun_cons, fin_ret, sk_mv, sk_give, sk_bin, sk_lenL, get_mk, raw_slot, put_some, wb_nil, ev_mv, ev_give, bin_lss, ro_int, ro_bool, List.map_cons, List.map_nil, List.getD_cons_zero, List.getD_cons_succ, List.set_cons_zero, List.set_cons_succ, List.length_nil, List.replicate_succ, List.replicate_zero, List.cons_append, List.nil_append, and_true, Bool.false_eq_true, ↓reduceIte]
    exact ⟨[], .inr ⟨by simp, by simp, rfl, rfl⟩⟩
  have hd : decide ((i : Int) < (l.length : Int)) = true := by simp; omega
  have hil : i < l.length := by omega
  have hvv : v = .sl (l.flatMap fC) l.length .ro := by
    rcases hv with ⟨_, h⟩ | h
    · subst h; simp at hil
    · exact h
  subst hvv
  obtain ⟨x, N', T', r1, r2, hn', heq⟩ := hn.step hil hf2 (hg _ (List.getElem_mem hil)) key more l[i].num
  have hxl := hn.len
  obtain ⟨c, hc⟩ : ∃ c, c = l[i] := ⟨_, rfl⟩
  have e1 := fC_at hil 1 (by omega)
  have e2 := fC_at hil 2 (by omega)
  have e3 := fC_at hil 3 (by omega)
  rw [← hc] at e1 e2 e3 r1 r2 heq
  change _ = some (SV.int .i64 c.key) at e1
  change _ = some (SV.int .i64 c.num) at e2
  change _ = some (SV.str c.ad) at e3
  obtain ⟨q1, q2⟩ := hs c (by rw [hc]; exact List.getElem_mem hil)
  have hxk : ∀ st, ev st (.bin .xor) [.int .i64 c.key, .int .i64 key] = some (.int .i64 (xorK c.key key), [], st) := fun _ => bin_xor
  have hok : ∀ V W, okSt (D3 V W []) := fun V W => D3_ok V W rfl
  have htl := hn.tl
  have c1 : (x != x) = false := by simp
  obtain ⟨V, hV⟩ : ∃ V : VS, V = ⟨[], N, T⟩ := ⟨_, rfl⟩
  obtain ⟨W, hW⟩ : ∃ W : VS, W = ⟨[], N.map fun p => (phi key more p.1, p.2), T⟩ := ⟨_, rfl⟩
  obtain ⟨V', hV'⟩ : ∃ V : VS, V = ⟨[], N', T'⟩ := ⟨_, rfl⟩
  obtain ⟨W', hW'⟩ : ∃ W : VS, W = ⟨[], N'.map fun p => (phi key more p.1, p.2), T'⟩ := ⟨_, rfl⟩
  have hvl : V.t.length < 4294967296 := by rw [hV]; show T.length < _; omega
  have hwl : W.t.length < 4294967296 := by rw [hW]; show T.length < _; omega
  rw [← hV, ← hV'] at r1
  rw [← hW, ← hW'] at r2
  rw [← hV, ← hW]
  simp (maxSteps := 2000000) (disch := first | omega | (simp only [List.length_append, List.length_cons, List.length_nil, List.length_map] <;> omega)) only [hd, hla, e1, e2, e3, ev_fldE, Int.toNat_natCast, exc_int, exc_str, exc_ptr, swp_seq, swp_reg, swp_skip, swp_block, swp_cond, seqK_n, condK_t, evK_some, appK_eq, srun_nil, srun_cons, stepK_call, sk_mv, sk_bin, sk_fld, sk_idxA, sk_load, sk_lenL, get_mk, raw_slot, put_some, wb_nil, ev_mv, bin_lss, ev_loadE, idxA_ro, ro_int, ro_str, ro_ptr, ro_ro, got_int, got_str, got_ptr, pubs, pubsFrom, List.map_cons, List.map_nil, List.getD_cons_zero, List.getD_cons_succ, List.set_cons_zero, List.set_cons_succ, List.replicate_succ, List.replicate_zero, List.cons_append, List.nil_append, Bool.false_eq_true, Option.map_some, ↓reduceIte]
  refine callK_intro (.inl (d17v (hok _ _) hvl r1)) ?_
  simp (maxSteps := 2000000) (disch := first | omega | (simp only [List.length_append, List.length_cons, List.length_nil, List.length_map] <;> omega)) only [seqK_n, evK_some, appK_eq, appC_eq, srun_nil, srun_cons, sk_mv, get_mk, raw_slot, put_some, wb_nil, ev_mv, ro_tup, ro2_int, List.map_cons, List.map_nil, List.getD_cons_zero, List.getD_cons_succ, List.set_cons_zero, List.set_cons_succ]
  apply swp_to
  · repeat' first | exact swp_ttI | refine swp_bothI ?_ ?_ | exact ⟨rfl, rfl⟩ | exact rfl | simp (maxSteps := 2000000) (disch := first | omega | (simp only [List.length_append, List.length_cons, List.length_nil, List.length_map] <;> omega)) only [flg_int, swp_reg, evK_some, appK_eq, srun_nil, srun_cons, sk_give, sk_ext, get_mk, raw_slot, put_some, wb_nil, ev_give, ev_ext, ro_int, List.map_cons, List.map_nil, List.getD_cons_zero, List.getD_cons_succ, List.set_cons_zero, List.set_cons_succ, List.getElem?_cons_zero, List.getElem?_cons_succ, true_and, Bool.false_eq_true, Option.map_some, ↓reduceIte]
  simp (maxSteps := 2000000) (disch := first | omega | (simp only [List.length_append, List.length_cons, List.length_nil, List.length_map] <;> omega)) only [hxk, e1, e2, e3, bin_addS, ev_fldE, Int.toNat_natCast, exc_int, exc_str, exc_ptr, swp_seq, swp_reg, seqK_n, evK_some, appK_eq, srun_cons, stepK_call, sk_mv, sk_bin, sk_fld, sk_idxA, sk_load, get_mk, raw_slot, put_some, wb_nil, ev_mv, ev_loadE, idxA_ro, ro_int, ro_str, ro_ptr, ro_ro, got_int, got_str, got_ptr, pubs, pubsFrom, List.map_cons, List.map_nil, List.getD_cons_zero, List.getD_cons_succ, List.set_cons_zero, List.set_cons_succ, Bool.false_eq_true, Option.map_some, ↓reduceIte]
  refine callK_intro (.inl (d17w (hok _ _) hwl r2)) ?_
  simp (maxSteps := 2000000) (disch := first | omega | (simp only [List.length_append, List.length_cons, List.length_nil, List.length_map] <;> omega)) only [seqK_n, evK_some, appK_eq, appC_eq, srun_nil, srun_cons, sk_mv, get_mk, raw_slot, put_some, wb_nil, ev_mv, ro_tup, ro2_int, List.map_cons, List.map_nil, List.getD_cons_zero, List.getD_cons_succ, List.set_cons_zero, List.set_cons_succ]
  apply swp_to
  · repeat' first | exact swp_ttI | refine swp_bothI ?_ ?_ | exact ⟨rfl, rfl⟩ | exact rfl | simp (maxSteps := 2000000) (disch := first | omega | (simp only [List.length_append, List.length_cons, List.length_nil, List.length_map] <;> omega)) only [flg_int, swp_reg, evK_some, appK_eq, srun_nil, srun_cons, sk_give, sk_ext, get_mk, raw_slot, put_some, wb_nil, ev_give, ev_ext, ro_int, List.map_cons, List.map_nil, List.getD_cons_zero, List.getD_cons_succ, List.set_cons_zero, List.set_cons_succ, List.getElem?_cons_zero, List.getElem?_cons_succ, true_and, Bool.false_eq_true, Option.map_some, ↓reduceIte]
  simp (maxSteps := 2000000) (disch := first | omega | (simp only [List.length_append, List.length_cons, List.length_nil, List.length_map] <;> omega)) only [c1, grd_t, ev_pick, exc_int, swp_seq, swp_reg, swp_skip, swp_block, swp_cond, seqK_n, condK_f, evK_some, appK_eq, grd_t, srun_nil, srun_cons, stepK_grd, sk_mv, sk_take, sk_pick, sk_bin, get_mk, raw_slot, raw_lit, put_some, wb_nil, ev_mv, ev_take, ev_pick, bin_neq, ro_int, ro_bool, got_int, List.map_cons, List.map_nil, List.getD_cons_zero, List.getD_cons_succ, List.set_cons_zero, List.set_cons_succ, Bool.false_eq_true, ↓reduceIte, bne_self_eq_false]
  refine swp_lp (fun S => ∃ (k : Nat), k ≤ i ∧
      S = ⟨[.sl (l.flatMap fC) l.length .ro, .int .i64 key, .str more, .undef, .undef, .undef, .bool false, .bool true, .bool true, .ptr 3 0, .ptr 7 0, nv, .int .i64 i, .int .i64 x, .undef, .undef, .undef, .int .i64 k] ++ List.replicate 131 .undef, D3 V' W' []⟩)
      (fun S => match S.get 17 with | .int _ k => ((i : Int) - k).toNat | _ => 0)
      ⟨[.sl (l.flatMap fC) l.length .ro, .int .i64 key, .str more, .undef, .undef, .undef, .bool false, .bool true, .bool true, .ptr 3 0, .ptr 7 0, nv, .int .i64 i, .int .i64 x, .undef, .undef, .undef, .int .i64 0] ++ List.replicate 131 .undef, D3 V' W' []⟩ ?_ ⟨0, by omega, rfl⟩ ?_
  · refine Forget.of ?_
    repeat first | exact fg_e | refine fg_d ?_ | refine fg_k rfl ?_
  rintro S ⟨k, hk, rfl⟩
  by_cases hki : k = i
  case neg =>
    have hkl : k < i := by omega
    have hkx : k < xs.length := by omega
    have hkl2 : k < l.length := by omega
    have hdk : decide ((k : Int) < (i : Int)) = true := by simp; omega
    have hvo := ownI_some onv hkx
    subst hvo
    have hxm : (xs.map (SV.int .i64)).length = xs.length * 1 := by simp
    have hik : (xs.map (SV.int .i64))[k]? = some (.int .i64 xs[k]) := by simp [hkx]
    have f1 := fC_at hkl2 1 (by omega)
    have f3 := fC_at hkl2 3 (by omega)
    have he := heq k hkl2 hkx
    change _ = some (SV.int .i64 l[k].key) at f1
    change _ = some (SV.str l[k].ad) at f3
    cases hA : l[k].key == c.key with
    | false =>
      rw [hA, Bool.false_and] at he
      simp (maxSteps := 2000000) (disch := first | omega | (simp only [List.length_append, List.length_cons, List.length_nil, List.length_map] <;> omega)) only [hdk, hik, e1, f1, hA, he, Nat.mul_one, ev_fldE, grd_t, ev_pick, lpK_n, Int.toNat_natCast, flg_int, swp_seq, swp_reg, swp_skip, swp_block, swp_cond, seqK_n, blkK_n, condK_t, condK_f, evK_some, appK_eq, grd_t, srun_nil, srun_cons, stepK_grd, sk_mv, sk_give, sk_pick, sk_bin, sk_eqB, sk_fld, sk_idxA, sk_load, get_mk, raw_slot, raw_lit, put_some, wb_nil, ev_mv, ev_give, ev_pick, ev_eqB, bin_add, bin_eql, bin_lss, ev_loadE, idxA_ro, idxA_own, ro_int, ro_bool, ro_ro, ro_own, List.map_cons, List.map_nil, List.getD_cons_zero, List.getD_cons_succ, List.set_cons_zero, List.set_cons_succ, List.replicate_succ, List.replicate_zero, List.cons_append, List.nil_append, Bool.false_eq_true, Option.map_some, ↓reduceIte, Nat.mul_one, Bool.not_true, beq_self_eq_true, wrap_i64]
      refine ⟨_, ?_, ⟨k + 1, by omega, rfl⟩, ?_⟩
      · refine Forget.of ?_
        repeat first | exact fg_e | refine fg_d ?_ | refine fg_k rfl ?_
      · show ((i : Int) - ((k + 1 : Nat) : Int)).toNat < ((i : Int) - (k : Int)).toNat
        omega
    | true =>
      rw [hA, Bool.true_and] at he
      cases hB : l[k].ad == c.ad with
      | false =>
        rw [hB] at he
        simp (maxSteps := 2000000) (disch := first | omega | (simp only [List.length_append, List.length_cons, List.length_nil, List.length_map] <;> omega)) only [hdk, hik, e1, e3, f1, f3, hA, hB, he, Nat.mul_one, ev_fldE, grd_t, ev_pick, lpK_n, Int.toNat_natCast, flg_int, swp_seq, swp_reg, swp_skip, swp_block, swp_cond, seqK_n, blkK_n, condK_t, condK_f, evK_some, appK_eq, grd_t, srun_nil, srun_cons, stepK_grd, sk_mv, sk_give, sk_pick, sk_bin, sk_eqB, sk_fld, sk_idxA, sk_load, get_mk, raw_slot, raw_lit, put_some, wb_nil, ev_mv, ev_give, ev_pick, ev_eqB, bin_add, bin_eql, bin_lss, bin_eqlS, ev_loadE, idxA_ro, idxA_own, ro_int, ro_bool, ro_str, ro_ro, ro_own, List.map_cons, List.map_nil, List.getD_cons_zero, List.getD_cons_succ, List.set_cons_zero, List.set_cons_succ, List.replicate_succ, List.replicate_zero, List.cons_append, List.nil_append, Bool.false_eq_true, Option.map_some, ↓reduceIte, Nat.mul_one, Bool.not_true, beq_self_eq_true, wrap_i64]
        refine ⟨_, ?_, ⟨k + 1, by omega, rfl⟩, ?_⟩
        · refine Forget.of ?_
          repeat first | exact fg_e | refine fg_d ?_ | refine fg_k rfl ?_
        · show ((i : Int) - ((k + 1 : Nat) : Int)).toNat < ((i : Int) - (k : Int)).toNat
          omega
      | true =>
        rw [hB] at he
        simp (maxSteps := 2000000) (disch := first | omega | (simp only [List.length_append, List.length_cons, List.length_nil, List.length_map] <;> omega)) only [hdk, hik, e1, e3, f1, f3, hA, hB, he, Nat.mul_one, ev_fldE, grd_t, ev_pick, lpK_n, Int.toNat_natCast, flg_int, swp_seq, swp_reg, swp_skip, swp_block, swp_cond, seqK_n, blkK_n, condK_t, condK_f, evK_some, appK_eq, grd_t, srun_nil, srun_cons, stepK_grd, sk_mv, sk_give, sk_pick, sk_bin, sk_eqB, sk_fld, sk_idxA, sk_load, get_mk, raw_slot, raw_lit, put_some, wb_nil, ev_mv, ev_give, ev_pick, ev_eqB, bin_add, bin_eql, bin_lss, bin_eqlS, ev_loadE, idxA_ro, idxA_own, ro_int, ro_bool, ro_str, ro_ro, ro_own, List.map_cons, List.map_nil, List.getD_cons_zero, List.getD_cons_succ, List.set_cons_zero, List.set_cons_succ, List.replicate_succ, List.replicate_zero, List.cons_append, List.nil_append, Bool.false_eq_true, Option.map_some, ↓reduceIte, Nat.mul_one, Bool.not_true, beq_self_eq_true, wrap_i64]
        refine ⟨_, ?_, ⟨k + 1, by omega, rfl⟩, ?_⟩
        · refine Forget.of ?_
          repeat first | exact fg_e | refine fg_d ?_ | refine fg_k rfl ?_
        · show ((i : Int) - ((k + 1 : Nat) : Int)).toNat < ((i : Int) - (k : Int)).toNat
          omega
  subst hki
  have hdk : decide ((k : Int) < (k : Int)) = false := by simp
  have hb1 : ∀ st, ev st (.bsl 1 1 [.int .i64 0] [0]) [.int .i64 x] = some (.sl [.int .i64 x] 1 (.excl 1), [], st) := fun _ => rfl
  have fin : ((l.length : Int) - ((k + 1 : Nat) : Int)).toNat < ((l.length : Int) - (k : Int)).toNat := by omega
  have hD : D3 V' W' [] = D3 ⟨[], N', T'⟩ ⟨[], N'.map fun p => (phi key more p.1, p.2), T'⟩ [] := by rw [hV', hW']
  rcases onv with ⟨rfl, h0⟩ | ⟨h0, rfl⟩
  · simp (maxSteps := 2000000) (disch := first | omega | (simp only [List.length_append, List.length_cons, List.length_nil, List.length_map] <;> omega)) only [hdk, hb1, lpK_n, lpK_e, sk_giveP, ev_giveP, pub_excl2, flg_int, flg_excl, swp_seq, swp_reg, swp_exit, swp_cond, seqK_n, seqK_e, blkK_n, blkK_e, condK_f, evK_some, appK_eq, srun_nil, srun_cons, sk_mv, sk_give, sk_bin, sk_bsl, sk_app, get_mk, raw_slot, raw_lit, put_some, wb_nil, wb_cons, ev_mv, ev_give, bin_add, bin_lss, ro_int, ro_nilS, ro_excl, List.map_cons, List.map_nil, List.getD_cons_zero, List.getD_cons_succ, List.set_cons_zero, List.set_cons_succ, List.getElem?_cons_zero, List.replicate_succ, List.replicate_zero, List.cons_append, List.nil_append, Bool.false_eq_true, ↓reduceIte, wrap_i64, app_nil]
    rw [hD]
    refine ⟨_, ?_, ⟨k + 1, xs ++ [x], N', T', .sl [.int .i64 x] 1 (.own 1), by omega, hn', .inr ⟨by simp, by simp [h0]⟩, rfl⟩, fin⟩
    refine Forget.of ?_
    repeat first | exact fg_e | refine fg_d ?_ | refine fg_k rfl ?_
  · have hxm : (xs.map (SV.int .i64)).length = xs.length * 1 := by simp
    simp (maxSteps := 2000000) (disch := first | omega | (simp only [List.length_append, List.length_cons, List.length_nil, List.length_map] <;> omega)) only [hdk, hb1, lpK_n, lpK_e, app_own, sk_giveP, ev_giveP, pub_own, flg_int, flg_own, swp_seq, swp_reg, swp_exit, swp_cond, seqK_n, seqK_e, blkK_n, blkK_e, condK_f, evK_some, appK_eq, srun_nil, srun_cons, sk_mv, sk_give, sk_bin, sk_bsl, sk_app, get_mk, raw_slot, raw_lit, put_some, wb_nil, wb_cons, ev_mv, ev_give, bin_add, bin_lss, ro_int, ro_own, List.map_cons, List.map_nil, List.getD_cons_zero, List.getD_cons_succ, List.set_cons_zero, List.set_cons_succ, List.getElem?_cons_zero, List.replicate_succ, List.replicate_zero, List.cons_append, List.nil_append, Bool.false_eq_true, ↓reduceIte, wrap_i64]
    rw [hD]
    refine ⟨_, ?_, ⟨k + 1, xs ++ [x], N', T', .sl (xs.map (SV.int .i64) ++ [.int .i64 x]) (xs.length + 1) (.own 1), by omega, hn', .inr ⟨by simp, by simp⟩, rfl⟩, fin⟩
    refine Forget.of ?_
    repeat first | exact fg_e | refine fg_d ?_ | refine fg_k rfl ?_
end Go.Sh.F
