/-
  The vault's functions as they are called; few; small.
-/
import Derived.Test.YtmbaokfcdfhfeaaV4
import Derived.Test.YtmbaokfcdfhfeaaShRow
set_option linter.unusedSimpArgs false
set_option linter.unusedVariables false
namespace Go.Sh.F
def K13 : List SV → List Ob → SV → List Ob → Prop := fun args st r st' => ∃ m V key ad plain nonce, Vat st m V ∧ okSt st ∧ V.s.length < 4294967296 ∧ args = [.ptr (m + 3) 0, .int .i64 key, .str ad, .str plain, .int .i64 nonce] ∧
  r = .tup [.int .i64 (sealF V key ad plain nonce).1.1, .int .i64 (sealF V key ad plain nonce).1.2] ∧ st' = st.set m (.map (encS (sealF V key ad plain nonce).2.s))
def K15 : List SV → List Ob → SV → List Ob → Prop := fun args st r st' => ∃ m V key ad x, Vat st m V ∧ okSt st ∧ args = [.ptr (m + 3) 0, .int .i64 key, .str ad, .int .i64 x] ∧ r = .tup [.str (openF V key ad x).1, .int .i64 (openF V key ad x).2] ∧ st' = st
def K19 : List SV → List Ob → SV → List Ob → Prop := fun args st r st' => ∃ m V x, Vat st m V ∧ okSt st ∧ args = [.ptr (m + 3) 0, .int .i64 x] ∧ r = .int .i64 (szF V x) ∧ st' = st
def K17 : List SV → List Ob → SV → List Ob → Prop := fun args st r st' => ∃ m V key label nonce, Vat st m V ∧ okSt st ∧ V.t.length < 4294967296 ∧ args = [.ptr (m + 3) 0, .int .i64 key, .str label, .int .i64 nonce] ∧
  r = .tup [.int .i64 (nameF V key label nonce).1.1, .int .i64 (nameF V key label nonce).1.2] ∧ st' = (st.set (m + 1) (.map (encN (nameF V key label nonce).2.n))).set (m + 2) (.map (encT (nameF V key label nonce).2.t))
def O44 : Orc := O43.add 13 K13
theorem s44 : Sound Proofs.Try.prog O44 := s43.add c13 (by kernel_rfl) (by
  rintro args st r st' ⟨m, V, key, ad, plain, nonce, h, ho, hl, rfl, rfl, rfl⟩
  exact ⟨by simp [sf13], k13 h ho hl key ad plain nonce⟩)
def O45 : Orc := O44.add 15 K15
theorem s45 : Sound Proofs.Try.prog O45 := s44.add c15 (by kernel_rfl) (by
  rintro args st r st' ⟨m, V, key, ad, x, h, ho, rfl, rfl, rfl⟩
  exact ⟨by simp [sf15], k15 _ h ho key ad x⟩)
theorem O43_up {f : FuncId} {a : List SV} {s s' : List Ob} {r : SV} (h : O43 f a s r s') : O45 f a s r s' := .inl (.inl h)
theorem swp_up {O O' : Orc} (h : ∀ f a s r s', O f a s r s' → O' f a s r s') : ∀ {c : SC} {Q : Ex → S → Prop} {s : S}, swp O c Q s → swp O' c Q s := by
  have hst : ∀ (i : SI) (K K' : S → Prop), (∀ s, K s → K' s) → ∀ s, stepK O i K s → stepK O' i K' s := by
    intro i K K' hK s hs
    refine ⟨hs.1, ?_⟩
    have h2 := hs.2
    split at h2
    · rename_i hw
      rw [if_pos hw]
      obtain ⟨r, wb, st', h3, h4⟩ := h2
      refine ⟨r, wb, st', ?_, hK _ h4⟩
      unfold stepV at h3 ⊢
      split at h3
      · exact ⟨h _ _ _ _ _ h3.1, h3.2⟩
      · obtain ⟨⟨f, first, cap, e, h5⟩, h6⟩ := h3
        exact ⟨⟨f, first, cap, e, h _ _ _ _ _ h5⟩, h6⟩
      · exact h3
    · rename_i hw
      rw [if_neg hw]
      exact hK _ h2
  intro c
  induction c with
  | skip => intro Q s k; exact k
  | reg l =>
    intro Q s k
    have : ∀ (l : List SI) (s : S), srun O l (Q .normal) s → srun O' l (Q .normal) s := by
      intro l
      induction l with
      | nil => exact fun s k => k
      | cons i l ih => exact fun s k => hst i _ _ (fun s k => ih s k) s k
    exact this l s k
  | seq a b iha ihb =>
    intro Q s k
    have k2 : swp O a (fun e s' => match e with | .normal => swp O' b Q s' | e => Q e s') s := swp_mono (fun e s k => by cases e <;> first | exact ihb k | exact k) k
    exact iha k2
  | cond c a b iha ihb =>
    intro Q s k
    obtain ⟨t, ht, k⟩ := k
    refine ⟨t, ht, ?_⟩
    split
    · rename_i htt; rw [if_pos htt] at k; exact iha k
    · rename_i htt; rw [if_neg htt] at k; exact ihb k
  | block id a iha => intro Q s k; exact iha k
  | loop a iha =>
    intro Q s k
    obtain ⟨I, μ, h0, k⟩ := k
    exact ⟨I, μ, h0, fun s1 hI => iha (k s1 hI)⟩
  | exit id => intro Q s k; exact k
  | ret => intro Q s k; exact k
  | both a b iha ihb => intro Q s k; exact ⟨iha k.1, ihb k.2⟩
  | tt => intro Q s k; trivial
  | scope a l r iha ihr =>
    intro Q s k
    have k2 : swp O a (fun e s' => match e with
      | .goto l' => l' = l ∧ swp O' r (fun e s'' => match e with | .goto _ => False | e => Q e s'') s'
      | e => Q e s') s := swp_mono (fun e s k => by
        cases e with
        | goto i => exact ⟨k.1, ihr k.2⟩
        | _ => exact k) k
    exact iha k2
  | label l => intro Q s k; exact k
  | goto l => intro Q s k; exact k
theorem swpF_up {O O' : Orc} (h : ∀ f a s r s', O f a s r s' → O' f a s r s') {sf : SF} {args : List SV} {st : List Ob} {R : SV → List Ob → Prop} (k : swpF O sf args st R) : swpF O' sf args st R := swp_up h k
def O46 : Orc := O45.add 19 K19
theorem s46 : Sound Proofs.Try.prog O46 := s45.add c19 (by kernel_rfl) (by
  rintro args st r st' ⟨m, V, x, h, ho, rfl, rfl, rfl⟩
  exact ⟨by simp [sf19], swpF_up (fun _ _ _ _ _ => O43_up) (k19 h ho x)⟩)
def O47 : Orc := O46.add 17 K17
theorem s47 : Sound Proofs.Try.prog O47 := s46.add c17 (by kernel_rfl) (by
  rintro args st r st' ⟨m, V, key, label, nonce, h, ho, hl, rfl, rfl, rfl⟩
  exact ⟨by simp [sf17], swpF_up (fun _ _ _ _ _ h => .inl (O43_up h)) (k17 h ho hl key label nonce)⟩)

/-! The states of a law. -/
def vobs (m : Nat) (V : VS) : List Ob := [.map (encS V.s), .map (encN V.n), .map (encT V.t), .cells [.mp m, .mp (m + 1), .mp (m + 2)]]
def V0 : VS := ⟨[], [], []⟩
theorem vobs_ok {k m : Nat} {V : VS} (h : m + 3 ≤ k) : (vobs m V).all (obOk k) = true := by
  simp only [vobs, List.all_cons, List.all_nil, ob_encS, ob_encN, ob_encT, Bool.true_and, Bool.and_true]
  simp [obOk, idOks, idOk]; omega
theorem vat_at {pre post : List Ob} {m : Nat} {V : VS} (h : pre.length = m) : Vat (pre ++ (vobs m V ++ post)) m V := by
  subst h
  have key : ∀ i, (pre ++ (vobs pre.length V ++ post))[pre.length + i]? = (vobs pre.length V ++ post)[i]? := fun i => by rw [List.getElem?_append_right (by omega)]; congr 1; omega
  exact ⟨(key 0).trans rfl, (key 1).trans rfl, (key 2).trans rfl, (key 3).trans rfl⟩
theorem set_vs {pre post : List Ob} {m : Nat} {V : VS} {l : List (Int × Sd)} (h : pre.length = m) : (pre ++ (vobs m V ++ post)).set m (.map (encS l)) = pre ++ (vobs m { V with s := l } ++ post) := by
  subst h
  rw [List.set_append_right _ _ (Nat.le_refl _), Nat.sub_self]; rfl
theorem set_vn {pre post : List Ob} {m : Nat} {V : VS} {l : List ((Int × List UInt8) × Int)} {l' : List (Int × Bool)} (h : pre.length = m) : ((pre ++ (vobs m V ++ post)).set (m + 1) (.map (encN l))).set (m + 2) (.map (encT l')) = pre ++ (vobs m { V with n := l, t := l' } ++ post) := by
  subst h
  rw [List.set_append_right _ _ (by omega), List.set_append_right _ _ (by omega), show pre.length + 1 - pre.length = 1 by omega, show pre.length + 2 - pre.length = 2 by omega]; rfl
theorem seal_eq (V : VS) (key : Int) (ad plain : List UInt8) (nonce : Int) : { V with s := (sealF V key ad plain nonce).2.s } = (sealF V key ad plain nonce).2 := by
  unfold sealF
  split
  · rfl
  · split <;> rfl
theorem name_eq (V : VS) (key : Int) (label : List UInt8) (nonce : Int) : { V with n := (nameF V key label nonce).2.n, t := (nameF V key label nonce).2.t } = (nameF V key label nonce).2 := by
  unfold nameF
  split
  · rfl
  · split <;> rfl
/-- A vault at m, among others. -/
def At (pre : List Ob) (m : Nat) (V : VS) (post : List Ob) : List Ob := pre ++ (vobs m V ++ post)
section
variable {pre post : List Ob} {m : Nat} {V V' : VS} {key x a e n nonce : Int} {ad plain y label : List UInt8}
theorem g13 (hm : pre.length = m) (ho : okSt (At pre m V post)) (hl : V.s.length < 4294967296) (hr : sealF V key ad plain nonce = ((a, e), V')) : O47 13 [.ptr (m + 3) 0, .int .i64 key, .str ad, .str plain, .int .i64 nonce] (At pre m V post) (.tup [.int .i64 a, .int .i64 e]) (At pre m V' post) :=
  .inl (.inl (.inl (.inr ⟨rfl, m, V, key, ad, plain, nonce, vat_at hm, ho, hl, rfl, by rw [hr], by unfold At; rw [set_vs hm, seal_eq, hr]⟩)))
theorem g15 (hm : pre.length = m) (ho : okSt (At pre m V post)) (hr : openF V key ad x = (y, e)) : O47 15 [.ptr (m + 3) 0, .int .i64 key, .str ad, .int .i64 x] (At pre m V post) (.tup [.str y, .int .i64 e]) (At pre m V post) :=
  .inl (.inl (.inr ⟨rfl, m, V, key, ad, x, vat_at hm, ho, rfl, by rw [hr], rfl⟩))
theorem g19 (hm : pre.length = m) (ho : okSt (At pre m V post)) (hr : szF V x = n) : O47 19 [.ptr (m + 3) 0, .int .i64 x] (At pre m V post) (.int .i64 n) (At pre m V post) :=
  .inl (.inr ⟨rfl, m, V, x, vat_at hm, ho, rfl, by rw [hr], rfl⟩)
theorem g17 (hm : pre.length = m) (ho : okSt (At pre m V post)) (hl : V.t.length < 4294967296) (hr : nameF V key label nonce = ((a, e), V')) : O47 17 [.ptr (m + 3) 0, .int .i64 key, .str label, .int .i64 nonce] (At pre m V post) (.tup [.int .i64 a, .int .i64 e]) (At pre m V' post) :=
  .inr ⟨rfl, m, V, key, label, nonce, vat_at hm, ho, hl, rfl, by rw [hr], by unfold At; rw [set_vn hm, name_eq, hr]⟩
theorem l43 {f : FuncId} {a : List SV} {s s' : List Ob} {r : SV} (h : O43 f a s r s') : O47 f a s r s' := .inl (.inl (O43_up h))
theorem g21 (hm : pre.length = m) : O47 21 [.ptr (m + 3) 0] (At pre m V post) (.int .i64 V.s.length) (At pre m V post) := l43 (.inl (.inl (.inl (.inl (.inr ⟨rfl, m, V, vat_at hm, rfl, rfl, rfl⟩)))))
theorem g22 (hm : pre.length = m) : O47 22 [.ptr (m + 3) 0] (At pre m V post) (.int .i64 V.n.length) (At pre m V post) := l43 (.inl (.inl (.inl (.inr ⟨rfl, m, V, vat_at hm, rfl, rfl, rfl⟩))))
theorem g12 (st : List Ob) : O47 12 [] st (.ptr (st.length + 3) 0) (At st st.length V0 []) := l43 (.inl (.inl (.inl (.inl (.inl (.inr ⟨rfl, rfl, rfl, by simp [At, vobs, V0, encS, encN, encT]⟩))))))
end
/-- One vault. -/
def S1 (V : VS) : List Ob := At [] 0 V []
theorem S1_ok (V : VS) : okSt (S1 V) := by
  show (vobs 0 V ++ []).all (obOk (vobs 0 V ++ []).length) = true
  rw [List.append_nil]
  exact vobs_ok (by simp [vobs])
theorem S1_len (V : VS) : (S1 V).length = 4 := rfl

/-! A call. -/
structure Cl where
  which : Int
  key : Int
  num : Int
  ad : List UInt8
  plain : List UInt8
def fC (c : Cl) : List SV := [.int .i64 c.which, .int .i64 c.key, .int .i64 c.num, .str c.ad, .str c.plain]
theorem fC_len (l : List Cl) : (l.flatMap fC).length = l.length * 5 := flatMap_len (f := fC) (n := 5) (fun _ => rfl) l
theorem fC_at {l : List Cl} {i : Nat} (h : i < l.length) (j : Nat) (hj : j < 5) : (l.flatMap fC)[i * 5 + j]? = (fC l[i])[j]? := by
  rw [flatMap_at (n := 5) (by omega) (fun _ => rfl), show (i * 5 + j) / 5 = i by omega, show (i * 5 + j) % 5 = j by omega, List.getElem?_eq_getElem h]; rfl
def okC (c : Cl) : Bool := decide (c.ad.length ≤ 200) && decide (c.plain.length ≤ 6000)
def fewF (l : List Cl) : Bool := l.all okC && decide (l.length ≤ 100)
set_option maxHeartbeats 1000000 in
theorem k11 (O : Orc) {v : SV} {l : List Cl} (hv : rdR fC v l) (hl : l.length ≤ 1099511627776) (hs : ∀ c ∈ l, c.ad.length ≤ 1099511627776 ∧ c.plain.length ≤ 1099511627776) (st : List Ob) : swpF O sf11 [v] st (fun r st' => r = .bool (fewF l) ∧ st' = st) := by
  obtain ⟨hro, hgot, hexc, hflg, hla⟩ := rdR_facts hv
  have hla' := hla st
  simp (maxSteps := 2000000) (disch := first | omega | (simp only [List.length_append, List.length_cons, List.length_nil, List.length_map] <;> omega)) only [sf11, hro, hgot, hexc, hflg, lpK_n, lpK_e, lpK_r, lpK_g, Int.toNat_natCast, app_own, sk_giveP, ev_giveP, pub_excl2, pub_own, sk_loadG, sk_ment, sk_mest, ev_ment, ev_mest, ev_loadG, sk_mkM, sk_lkp, sk_upd, ev_mkM, ev_mkM1, ev_eqA, apM_some, ev_lkp, ev_lkpN, ev_upd, ev_lenMp, ev_lenMn, stepK_callv, callvK_fn, ev_idxP, sk_giveO, sk_cpy, sk_slcP, ro_slo, ro1_slo, ro2_slo, got_slo, flg_slo, exc_slo, ev_giveO_x, ev_giveO_nil, ev_giveO_slo, ev_giveO_ro, ev_lenO, ev_eqNs3, ev_idxO, apO_some, ev_b2O, ev_appO, slcO_hi, slcO_lo, slcO_both, slcP_all, ev_cpS, slcO_clone, flg_undef, flg_bool, flg_int, flg_str, flg_nilS, flg_nilP, flg_ptr, flg_agg, flg_tup, flg_nilF, flg_fn, flg_nilM, flg_mp, flg_elv, flg_ro, flg_full, flg_own, flg_excl, exc_undef, exc_bool, exc_int, exc_str, exc_nilS, exc_nilP, exc_ptr, exc_agg, exc_tup, exc_nilF, exc_fn, exc_nilM, exc_mp, exc_elv, exc_ro, exc_full, exc_own, exc_excl, sk_idxB, idxB_ro, idxB_full, idxB_own, idxB_excl, idxB_O, grd_s, swp_seq, swp_reg, swp_skip, swp_ret, swp_exit, swp_label, swp_goto, swp_block, swp_scope, swp_both, swp_cond, seqK_n, seqK_e, seqK_r, seqK_g, blkK_n, blkK_e, blkK_r, blkK_g, noG_n, noG_e, noG_r, scpK_n, scpK_e, scpK_r, scpK_g, condK_t, condK_f, evK_some, appK_eq, appC_eq, grd_t, srun_nil, srun_cons, stepK_call, stepK_grd, fin_ret, fin_n, fin_nil, fin_two, fin_three, swpF_eq, sk_mv, sk_take, sk_give, sk_pick, sk_bin, sk_eqB, sk_eqN, sk_eqA, sk_un, sk_cvI, sk_b2s, sk_s2b, sk_idS, sk_nilc, sk_fld, sk_fldV, sk_idxS, sk_idxV, sk_idxA, sk_idxP, sk_load, sk_store, sk_lenS, sk_lenL, sk_lenA, sk_lenM, sk_min, sk_max, sk_slcS, sk_slcL, sk_mkS, sk_bsl, sk_bld, sk_box, sk_alloc, sk_ext, sk_app, sk_mfn, get_mk, raw_slot, raw_lit, put_some, put_none, wb_nil, wb_cons, ev_mv, ev_take, ev_give, ev_pick, ev_eqB, ev_not, ev_cvI, ev_nilc, ev_fld, ev_lenS, ev_lenL, ev_lenN, ev_min, ev_max, ev_eqNs1, ev_eqNs2, ev_eqNp1, ev_eqNp2, ev_ext, bin_add, bin_sub, bin_mul, bin_and, bin_or, bin_xor, bin_eql, bin_neq, bin_lss, bin_leq, bin_gtr, bin_geq, bin_eqlS, bin_neqS, bin_lssS, unr_succ, unrK_n, unrK_e, unrK_r, unrK_g, ev_b2sN, bsl_nil, ev_bsl, ev_bld, ev_box, ev_alloc, ev_ldP, ldP_some, stP_some, setOb_setOb, setOb_len, ev_loadE, slcS_hi, slcS_lo, slcS_both, slcL_hi_ro, slcL_lo_ro, slcL_both_ro, idxA_ro, slcL_hi_full, slcL_lo_full, slcL_both_full, idxA_full, slcL_hi_own, slcL_lo_own, slcL_both_own, idxA_own, slcL_nil_hi, slcL_nil_both, app_excl_str, ro_undef, ro_int, ro_bool, ro_str, ro_nilS, ro_nilP, ro_nilF, ro_nilM, ro_ptr, ro_mp, ro_fn, ro_elv, ro_ro, ro_full, ro_own, ro_excl, ro_agg, ro_tup, ro1_int, ro1_str, ro1_bool, ro1_nilS, ro2_nilS, ro1_nilP, ro2_nilP, ro1_nilF, ro2_nilF, ro1_nilM, ro2_nilM, ro1_ptr, ro2_ptr, ro1_mp, ro2_mp, ro1_fn, ro2_fn, ro1_ro, ro2_ro, ro1_full, ro2_full, ro1_own, ro2_own, ro2_int, ro2_str, ro2_bool, got_excl, got_own, got_roo, got_full, got_int, got_bool, got_str, got_nilS, got_nilP, got_ptr, got_fn, got_mp, got_undef, got_agg, pub_excl, pubs, pubsFrom, List.map_cons, List.map_nil, List.getD_cons_zero, List.getD_cons_succ, List.set_cons_zero, List.set_cons_succ, List.getElem?_cons_zero, List.getElem?_cons_succ, List.length_cons, List.length_nil, List.replicate_succ, List.replicate_zero, List.cons_append, List.nil_append, Nat.reduceAdd, Nat.reduceSub, Nat.reduceMul, Nat.reduceLeDiff, Nat.reduceLT, Nat.reduceEqDiff, if_true, if_false, true_and, and_true, Bool.false_eq_true, Option.map_some, Option.bind_some, ↓reduceIte, List.all_cons, List.all_nil, Bool.and_true, Bool.and_self, List.zip_cons_cons, List.zip_nil_left, List.zip_nil_right, rep, fillV, wrCells, cellsV, isCell, List.flatten_cons, List.flatten_nil, List.append_nil, decide_true, decide_false, Nat.zero_mul, Nat.mul_one, Nat.zero_add, reduceCtorEq, not_false_eq_true, forall_const, implies_true, Bool.not_true, Bool.not_false, beq_self_eq_true, bne_self_eq_false, Int.reduceBEq, Int.reduceBNe, st_bool, st_int, st_str, st_nilS, st_nilP, st_ptr, st_nilF, st_fn, st_nilM, st_mp, st_ro, st_full, setOb_same, ge_iff_le, gt_iff_lt, Int.cast_ofNat_Int, or_step, or_zero, Int.zero_mul, Int.reduceLE, Int.reduceLT, Int.reduceMul, Int.reduceSub, Int.reduceAdd, Int.reduceToNat, Int.reduceNeg, Int.reducePow, Nat.reducePow, IntKind.bits, wrap_i64, wrap_u8, bin_shr, bin_shl, Nat.min_def, ne_eq, Nat.one_ne_zero, List.length_append, Nat.le_refl, not_true_eq_false, app_excl, app_nil, ev_cvI]
  refine swp_lp (fun S => ∃ (i : Nat), i ≤ l.length ∧ (l.take i).all okC = true ∧
      S = ⟨[v, .undef, .bool false, .int .i64 i] ++ List.replicate 25 .undef, st⟩)
      (fun S => match S.get 3 with | .int _ k => ((l.length : Int) - k).toNat | _ => 0)
      ⟨[v, .undef, .bool false, .int .i64 0] ++ List.replicate 25 .undef, st⟩ ?_ ⟨0, by omega, rfl, rfl⟩ ?_
  · refine Forget.of ?_
    repeat first | exact fg_e | refine fg_d ?_ | refine fg_k rfl ?_
  rintro S ⟨i, hi, ha, rfl⟩
  by_cases him : i = l.length
  · subst him
    rw [List.take_length] at ha
    have hd : decide ((l.length : Int) < (l.length : Int)) = false := by simp
    have hr : fewF l = decide ((l.length : Int) ≤ 100) := by
      unfold fewF; rw [ha, Bool.true_and]
      by_cases h : l.length ≤ 100
      · rw [decide_eq_true h, decide_eq_true (by omega)]
      · rw [decide_eq_false h, decide_eq_false (by omega)]
    rw [hr]
    simp (maxSteps := 2000000) (disch := first | omega | (simp only [List.length_append, List.length_cons, List.length_nil, List.length_map] <;> omega)) only [hro, hgot, hexc, hflg, hla', hd, lpK_n, lpK_e, lpK_r, lpK_g, Int.toNat_natCast, app_own, sk_giveP, ev_giveP, pub_excl2, pub_own, sk_loadG, sk_ment, sk_mest, ev_ment, ev_mest, ev_loadG, sk_mkM, sk_lkp, sk_upd, ev_mkM, ev_mkM1, ev_eqA, apM_some, ev_lkp, ev_lkpN, ev_upd, ev_lenMp, ev_lenMn, stepK_callv, callvK_fn, ev_idxP, sk_giveO, sk_cpy, sk_slcP, ro_slo, ro1_slo, ro2_slo, got_slo, flg_slo, exc_slo, ev_giveO_x, ev_giveO_nil, ev_giveO_slo, ev_giveO_ro, ev_lenO, ev_eqNs3, ev_idxO, apO_some, ev_b2O, ev_appO, slcO_hi, slcO_lo, slcO_both, slcP_all, ev_cpS, slcO_clone, flg_undef, flg_bool, flg_int, flg_str, flg_nilS, flg_nilP, flg_ptr, flg_agg, flg_tup, flg_nilF, flg_fn, flg_nilM, flg_mp, flg_elv, flg_ro, flg_full, flg_own, flg_excl, exc_undef, exc_bool, exc_int, exc_str, exc_nilS, exc_nilP, exc_ptr, exc_agg, exc_tup, exc_nilF, exc_fn, exc_nilM, exc_mp, exc_elv, exc_ro, exc_full, exc_own, exc_excl, sk_idxB, idxB_ro, idxB_full, idxB_own, idxB_excl, idxB_O, grd_s, swp_seq, swp_reg, swp_skip, swp_ret, swp_exit, swp_label, swp_goto, swp_block, swp_scope, swp_both, swp_cond, seqK_n, seqK_e, seqK_r, seqK_g, blkK_n, blkK_e, blkK_r, blkK_g, noG_n, noG_e, noG_r, scpK_n, scpK_e, scpK_r, scpK_g, condK_t, condK_f, evK_some, appK_eq, appC_eq, grd_t, srun_nil, srun_cons, stepK_call, stepK_grd, fin_ret, fin_n, fin_nil, fin_two, fin_three, swpF_eq, sk_mv, sk_take, sk_give, sk_pick, sk_bin, sk_eqB, sk_eqN, sk_eqA, sk_un, sk_cvI, sk_b2s, sk_s2b, sk_idS, sk_nilc, sk_fld, sk_fldV, sk_idxS, sk_idxV, sk_idxA, sk_idxP, sk_load, sk_store, sk_lenS, sk_lenL, sk_lenA, sk_lenM, sk_min, sk_max, sk_slcS, sk_slcL, sk_mkS, sk_bsl, sk_bld, sk_box, sk_alloc, sk_ext, sk_app, sk_mfn, get_mk, raw_slot, raw_lit, put_some, put_none, wb_nil, wb_cons, ev_mv, ev_take, ev_give, ev_pick, ev_eqB, ev_not, ev_cvI, ev_nilc, ev_fld, ev_lenS, ev_lenL, ev_lenN, ev_min, ev_max, ev_eqNs1, ev_eqNs2, ev_eqNp1, ev_eqNp2, ev_ext, bin_add, bin_sub, bin_mul, bin_and, bin_or, bin_xor, bin_eql, bin_neq, bin_lss, bin_leq, bin_gtr, bin_geq, bin_eqlS, bin_neqS, bin_lssS, unr_succ, unrK_n, unrK_e, unrK_r, unrK_g, ev_b2sN, bsl_nil, ev_bsl, ev_bld, ev_box, ev_alloc, ev_ldP, ldP_some, stP_some, setOb_setOb, setOb_len, ev_loadE, slcS_hi, slcS_lo, slcS_both, slcL_hi_ro, slcL_lo_ro, slcL_both_ro, idxA_ro, slcL_hi_full, slcL_lo_full, slcL_both_full, idxA_full, slcL_hi_own, slcL_lo_own, slcL_both_own, idxA_own, slcL_nil_hi, slcL_nil_both, app_excl_str, ro_undef, ro_int, ro_bool, ro_str, ro_nilS, ro_nilP, ro_nilF, ro_nilM, ro_ptr, ro_mp, ro_fn, ro_elv, ro_ro, ro_full, ro_own, ro_excl, ro_agg, ro_tup, ro1_int, ro1_str, ro1_bool, ro1_nilS, ro2_nilS, ro1_nilP, ro2_nilP, ro1_nilF, ro2_nilF, ro1_nilM, ro2_nilM, ro1_ptr, ro2_ptr, ro1_mp, ro2_mp, ro1_fn, ro2_fn, ro1_ro, ro2_ro, ro1_full, ro2_full, ro1_own, ro2_own, ro2_int, ro2_str, ro2_bool, got_excl, got_own, got_roo, got_full, got_int, got_bool, got_str, got_nilS, got_nilP, got_ptr, got_fn, got_mp, got_undef, got_agg, pub_excl, pubs, pubsFrom, List.map_cons, List.map_nil, List.getD_cons_zero, List.getD_cons_succ, List.set_cons_zero, List.set_cons_succ, List.getElem?_cons_zero, List.getElem?_cons_succ, List.length_cons, List.length_nil, List.replicate_succ, List.replicate_zero, List.cons_append, List.nil_append, Nat.reduceAdd, Nat.reduceSub, Nat.reduceMul, Nat.reduceLeDiff, Nat.reduceLT, Nat.reduceEqDiff, if_true, if_false, true_and, and_true, Bool.false_eq_true, Option.map_some, Option.bind_some, ↓reduceIte, List.all_cons, List.all_nil, Bool.and_true, Bool.and_self, List.zip_cons_cons, List.zip_nil_left, List.zip_nil_right, rep, fillV, wrCells, cellsV, isCell, List.flatten_cons, List.flatten_nil, List.append_nil, decide_true, decide_false, Nat.zero_mul, Nat.mul_one, Nat.zero_add, reduceCtorEq, not_false_eq_true, forall_const, implies_true, Bool.not_true, Bool.not_false, beq_self_eq_true, bne_self_eq_false, Int.reduceBEq, Int.reduceBNe, st_bool, st_int, st_str, st_nilS, st_nilP, st_ptr, st_nilF, st_fn, st_nilM, st_mp, st_ro, st_full, setOb_same, ge_iff_le, gt_iff_lt, Int.cast_ofNat_Int, or_step, or_zero, Int.zero_mul, Int.reduceLE, Int.reduceLT, Int.reduceMul, Int.reduceSub, Int.reduceAdd, Int.reduceToNat, Int.reduceNeg, Int.reducePow, Nat.reducePow, IntKind.bits, wrap_i64, wrap_u8, bin_shr, bin_shl, Nat.min_def, ne_eq, Nat.one_ne_zero, List.length_append, Nat.le_refl, not_true_eq_false, app_excl, app_nil, ev_cvI]
    exact ⟨_, .same, rfl⟩
  have hil : i < l.length := by omega
  have hd : decide ((i : Int) < (l.length : Int)) = true := by simp; omega
  have hv' : v = .sl (l.flatMap fC) l.length .ro := by
    rcases hv with ⟨_, h⟩ | h
    · subst h; simp at hil
    · exact h
  subst hv'
  have h5 := fC_len l
  have e3 := fC_at hil 3 (by omega)
  have e4 := fC_at hil 4 (by omega)
  change _ = some (SV.str l[i].ad) at e3
  change _ = some (SV.str l[i].plain) at e4
  obtain ⟨q1, q2⟩ := hs _ (List.getElem_mem hil)
  have hnext : (l.take (i + 1)).all okC = okC l[i] := by rw [← List.take_append_getElem hil, List.all_append, ha]; simp
  have hbad : okC l[i] = false → fewF l = false := by
    intro h
    unfold fewF
    have : l.all okC = false := by
      rw [List.all_eq_false]
      exact ⟨_, List.getElem_mem hil, by simp [h]⟩
    rw [this, Bool.false_and]
  by_cases c1 : l[i].ad.length ≤ 200
  · have d1 : decide ((200 : Int) < (l[i].ad.length : Int)) = false := by simp; omega
    by_cases c2 : l[i].plain.length ≤ 6000
    · have d2 : decide ((6000 : Int) < (l[i].plain.length : Int)) = false := by simp; omega
      simp (maxSteps := 2000000) (disch := first | omega | (simp only [List.length_append, List.length_cons, List.length_nil, List.length_map] <;> omega)) only [hd, e3, e4, d1, d2, ev_fldE, grd_t, ev_pick, lpK_n, lpK_e, lpK_r, lpK_g, Int.toNat_natCast, app_own, sk_giveP, ev_giveP, pub_excl2, pub_own, sk_loadG, sk_ment, sk_mest, ev_ment, ev_mest, ev_loadG, sk_mkM, sk_lkp, sk_upd, ev_mkM, ev_mkM1, ev_eqA, apM_some, ev_lkp, ev_lkpN, ev_upd, ev_lenMp, ev_lenMn, stepK_callv, callvK_fn, ev_idxP, sk_giveO, sk_cpy, sk_slcP, ro_slo, ro1_slo, ro2_slo, got_slo, flg_slo, exc_slo, ev_giveO_x, ev_giveO_nil, ev_giveO_slo, ev_giveO_ro, ev_lenO, ev_eqNs3, ev_idxO, apO_some, ev_b2O, ev_appO, slcO_hi, slcO_lo, slcO_both, slcP_all, ev_cpS, slcO_clone, flg_undef, flg_bool, flg_int, flg_str, flg_nilS, flg_nilP, flg_ptr, flg_agg, flg_tup, flg_nilF, flg_fn, flg_nilM, flg_mp, flg_elv, flg_ro, flg_full, flg_own, flg_excl, exc_undef, exc_bool, exc_int, exc_str, exc_nilS, exc_nilP, exc_ptr, exc_agg, exc_tup, exc_nilF, exc_fn, exc_nilM, exc_mp, exc_elv, exc_ro, exc_full, exc_own, exc_excl, sk_idxB, idxB_ro, idxB_full, idxB_own, idxB_excl, idxB_O, grd_s, swp_seq, swp_reg, swp_skip, swp_ret, swp_exit, swp_label, swp_goto, swp_block, swp_scope, swp_both, swp_cond, seqK_n, seqK_e, seqK_r, seqK_g, blkK_n, blkK_e, blkK_r, blkK_g, noG_n, noG_e, noG_r, scpK_n, scpK_e, scpK_r, scpK_g, condK_t, condK_f, evK_some, appK_eq, appC_eq, grd_t, srun_nil, srun_cons, stepK_call, stepK_grd, fin_ret, fin_n, fin_nil, fin_two, fin_three, swpF_eq, sk_mv, sk_take, sk_give, sk_pick, sk_bin, sk_eqB, sk_eqN, sk_eqA, sk_un, sk_cvI, sk_b2s, sk_s2b, sk_idS, sk_nilc, sk_fld, sk_fldV, sk_idxS, sk_idxV, sk_idxA, sk_idxP, sk_load, sk_store, sk_lenS, sk_lenL, sk_lenA, sk_lenM, sk_min, sk_max, sk_slcS, sk_slcL, sk_mkS, sk_bsl, sk_bld, sk_box, sk_alloc, sk_ext, sk_app, sk_mfn, get_mk, raw_slot, raw_lit, put_some, put_none, wb_nil, wb_cons, ev_mv, ev_take, ev_give, ev_pick, ev_eqB, ev_not, ev_cvI, ev_nilc, ev_fld, ev_lenS, ev_lenL, ev_lenN, ev_min, ev_max, ev_eqNs1, ev_eqNs2, ev_eqNp1, ev_eqNp2, ev_ext, bin_add, bin_sub, bin_mul, bin_and, bin_or, bin_xor, bin_eql, bin_neq, bin_lss, bin_leq, bin_gtr, bin_geq, bin_eqlS, bin_neqS, bin_lssS, unr_succ, unrK_n, unrK_e, unrK_r, unrK_g, ev_b2sN, bsl_nil, ev_bsl, ev_bld, ev_box, ev_alloc, ev_ldP, ldP_some, stP_some, setOb_setOb, setOb_len, ev_loadE, slcS_hi, slcS_lo, slcS_both, slcL_hi_ro, slcL_lo_ro, slcL_both_ro, idxA_ro, slcL_hi_full, slcL_lo_full, slcL_both_full, idxA_full, slcL_hi_own, slcL_lo_own, slcL_both_own, idxA_own, slcL_nil_hi, slcL_nil_both, app_excl_str, ro_undef, ro_int, ro_bool, ro_str, ro_nilS, ro_nilP, ro_nilF, ro_nilM, ro_ptr, ro_mp, ro_fn, ro_elv, ro_ro, ro_full, ro_own, ro_excl, ro_agg, ro_tup, ro1_int, ro1_str, ro1_bool, ro1_nilS, ro2_nilS, ro1_nilP, ro2_nilP, ro1_nilF, ro2_nilF, ro1_nilM, ro2_nilM, ro1_ptr, ro2_ptr, ro1_mp, ro2_mp, ro1_fn, ro2_fn, ro1_ro, ro2_ro, ro1_full, ro2_full, ro1_own, ro2_own, ro2_int, ro2_str, ro2_bool, got_excl, got_own, got_roo, got_full, got_int, got_bool, got_str, got_nilS, got_nilP, got_ptr, got_fn, got_mp, got_undef, got_agg, pub_excl, pubs, pubsFrom, List.map_cons, List.map_nil, List.getD_cons_zero, List.getD_cons_succ, List.set_cons_zero, List.set_cons_succ, List.getElem?_cons_zero, List.getElem?_cons_succ, List.length_cons, List.length_nil, List.replicate_succ, List.replicate_zero, List.cons_append, List.nil_append, Nat.reduceAdd, Nat.reduceSub, Nat.reduceMul, Nat.reduceLeDiff, Nat.reduceLT, Nat.reduceEqDiff, if_true, if_false, true_and, and_true, Bool.false_eq_true, Option.map_some, Option.bind_some, ↓reduceIte, List.all_cons, List.all_nil, Bool.and_true, Bool.and_self, List.zip_cons_cons, List.zip_nil_left, List.zip_nil_right, rep, fillV, wrCells, cellsV, isCell, List.flatten_cons, List.flatten_nil, List.append_nil, decide_true, decide_false, Nat.zero_mul, Nat.mul_one, Nat.zero_add, reduceCtorEq, not_false_eq_true, forall_const, implies_true, Bool.not_true, Bool.not_false, beq_self_eq_true, bne_self_eq_false, Int.reduceBEq, Int.reduceBNe, st_bool, st_int, st_str, st_nilS, st_nilP, st_ptr, st_nilF, st_fn, st_nilM, st_mp, st_ro, st_full, setOb_same, ge_iff_le, gt_iff_lt, Int.cast_ofNat_Int, or_step, or_zero, Int.zero_mul, Int.reduceLE, Int.reduceLT, Int.reduceMul, Int.reduceSub, Int.reduceAdd, Int.reduceToNat, Int.reduceNeg, Int.reducePow, Nat.reducePow, IntKind.bits, wrap_i64, wrap_u8, bin_shr, bin_shl, Nat.min_def, ne_eq, Nat.one_ne_zero, List.length_append, Nat.le_refl, not_true_eq_false, app_excl, app_nil, ev_cvI]
      refine ⟨_, ?_, ⟨i + 1, by omega, by rw [hnext]; simp [okC, c1, c2], rfl⟩, ?_⟩
      · refine Forget.of ?_
        repeat first | exact fg_e | refine fg_d ?_ | refine fg_k rfl ?_
      · show ((l.length : Int) - ((i + 1 : Nat) : Int)).toNat < ((l.length : Int) - (i : Int)).toNat
        omega
    · have d2 : decide ((6000 : Int) < (l[i].plain.length : Int)) = true := by simp; omega
      rw [hbad (by simp [okC]; omega)]
      simp (maxSteps := 2000000) (disch := first | omega | (simp only [List.length_append, List.length_cons, List.length_nil, List.length_map] <;> omega)) only [hd, e3, e4, d1, d2, ev_fldE, grd_t, ev_pick, lpK_n, lpK_e, lpK_r, lpK_g, Int.toNat_natCast, app_own, sk_giveP, ev_giveP, pub_excl2, pub_own, sk_loadG, sk_ment, sk_mest, ev_ment, ev_mest, ev_loadG, sk_mkM, sk_lkp, sk_upd, ev_mkM, ev_mkM1, ev_eqA, apM_some, ev_lkp, ev_lkpN, ev_upd, ev_lenMp, ev_lenMn, stepK_callv, callvK_fn, ev_idxP, sk_giveO, sk_cpy, sk_slcP, ro_slo, ro1_slo, ro2_slo, got_slo, flg_slo, exc_slo, ev_giveO_x, ev_giveO_nil, ev_giveO_slo, ev_giveO_ro, ev_lenO, ev_eqNs3, ev_idxO, apO_some, ev_b2O, ev_appO, slcO_hi, slcO_lo, slcO_both, slcP_all, ev_cpS, slcO_clone, flg_undef, flg_bool, flg_int, flg_str, flg_nilS, flg_nilP, flg_ptr, flg_agg, flg_tup, flg_nilF, flg_fn, flg_nilM, flg_mp, flg_elv, flg_ro, flg_full, flg_own, flg_excl, exc_undef, exc_bool, exc_int, exc_str, exc_nilS, exc_nilP, exc_ptr, exc_agg, exc_tup, exc_nilF, exc_fn, exc_nilM, exc_mp, exc_elv, exc_ro, exc_full, exc_own, exc_excl, sk_idxB, idxB_ro, idxB_full, idxB_own, idxB_excl, idxB_O, grd_s, swp_seq, swp_reg, swp_skip, swp_ret, swp_exit, swp_label, swp_goto, swp_block, swp_scope, swp_both, swp_cond, seqK_n, seqK_e, seqK_r, seqK_g, blkK_n, blkK_e, blkK_r, blkK_g, noG_n, noG_e, noG_r, scpK_n, scpK_e, scpK_r, scpK_g, condK_t, condK_f, evK_some, appK_eq, appC_eq, grd_t, srun_nil, srun_cons, stepK_call, stepK_grd, fin_ret, fin_n, fin_nil, fin_two, fin_three, swpF_eq, sk_mv, sk_take, sk_give, sk_pick, sk_bin, sk_eqB, sk_eqN, sk_eqA, sk_un, sk_cvI, sk_b2s, sk_s2b, sk_idS, sk_nilc, sk_fld, sk_fldV, sk_idxS, sk_idxV, sk_idxA, sk_idxP, sk_load, sk_store, sk_lenS, sk_lenL, sk_lenA, sk_lenM, sk_min, sk_max, sk_slcS, sk_slcL, sk_mkS, sk_bsl, sk_bld, sk_box, sk_alloc, sk_ext, sk_app, sk_mfn, get_mk, raw_slot, raw_lit, put_some, put_none, wb_nil, wb_cons, ev_mv, ev_take, ev_give, ev_pick, ev_eqB, ev_not, ev_cvI, ev_nilc, ev_fld, ev_lenS, ev_lenL, ev_lenN, ev_min, ev_max, ev_eqNs1, ev_eqNs2, ev_eqNp1, ev_eqNp2, ev_ext, bin_add, bin_sub, bin_mul, bin_and, bin_or, bin_xor, bin_eql, bin_neq, bin_lss, bin_leq, bin_gtr, bin_geq, bin_eqlS, bin_neqS, bin_lssS, unr_succ, unrK_n, unrK_e, unrK_r, unrK_g, ev_b2sN, bsl_nil, ev_bsl, ev_bld, ev_box, ev_alloc, ev_ldP, ldP_some, stP_some, setOb_setOb, setOb_len, ev_loadE, slcS_hi, slcS_lo, slcS_both, slcL_hi_ro, slcL_lo_ro, slcL_both_ro, idxA_ro, slcL_hi_full, slcL_lo_full, slcL_both_full, idxA_full, slcL_hi_own, slcL_lo_own, slcL_both_own, idxA_own, slcL_nil_hi, slcL_nil_both, app_excl_str, ro_undef, ro_int, ro_bool, ro_str, ro_nilS, ro_nilP, ro_nilF, ro_nilM, ro_ptr, ro_mp, ro_fn, ro_elv, ro_ro, ro_full, ro_own, ro_excl, ro_agg, ro_tup, ro1_int, ro1_str, ro1_bool, ro1_nilS, ro2_nilS, ro1_nilP, ro2_nilP, ro1_nilF, ro2_nilF, ro1_nilM, ro2_nilM, ro1_ptr, ro2_ptr, ro1_mp, ro2_mp, ro1_fn, ro2_fn, ro1_ro, ro2_ro, ro1_full, ro2_full, ro1_own, ro2_own, ro2_int, ro2_str, ro2_bool, got_excl, got_own, got_roo, got_full, got_int, got_bool, got_str, got_nilS, got_nilP, got_ptr, got_fn, got_mp, got_undef, got_agg, pub_excl, pubs, pubsFrom, List.map_cons, List.map_nil, List.getD_cons_zero, List.getD_cons_succ, List.set_cons_zero, List.set_cons_succ, List.getElem?_cons_zero, List.getElem?_cons_succ, List.length_cons, List.length_nil, List.replicate_succ, List.replicate_zero, List.cons_append, List.nil_append, Nat.reduceAdd, Nat.reduceSub, Nat.reduceMul, Nat.reduceLeDiff, Nat.reduceLT, Nat.reduceEqDiff, if_true, if_false, true_and, and_true, Bool.false_eq_true, Option.map_some, Option.bind_some, ↓reduceIte, List.all_cons, List.all_nil, Bool.and_true, Bool.and_self, List.zip_cons_cons, List.zip_nil_left, List.zip_nil_right, rep, fillV, wrCells, cellsV, isCell, List.flatten_cons, List.flatten_nil, List.append_nil, decide_true, decide_false, Nat.zero_mul, Nat.mul_one, Nat.zero_add, reduceCtorEq, not_false_eq_true, forall_const, implies_true, Bool.not_true, Bool.not_false, beq_self_eq_true, bne_self_eq_false, Int.reduceBEq, Int.reduceBNe, st_bool, st_int, st_str, st_nilS, st_nilP, st_ptr, st_nilF, st_fn, st_nilM, st_mp, st_ro, st_full, setOb_same, ge_iff_le, gt_iff_lt, Int.cast_ofNat_Int, or_step, or_zero, Int.zero_mul, Int.reduceLE, Int.reduceLT, Int.reduceMul, Int.reduceSub, Int.reduceAdd, Int.reduceToNat, Int.reduceNeg, Int.reducePow, Nat.reducePow, IntKind.bits, wrap_i64, wrap_u8, bin_shr, bin_shl, Nat.min_def, ne_eq, Nat.one_ne_zero, List.length_append, Nat.le_refl, not_true_eq_false, app_excl, app_nil, ev_cvI]
      exact ⟨_, .same, rfl⟩
  · have d1 : decide ((200 : Int) < (l[i].ad.length : Int)) = true := by simp; omega
    rw [hbad (by simp [okC]; omega)]
    simp (maxSteps := 2000000) (disch := first | omega | (simp only [List.length_append, List.length_cons, List.length_nil, List.length_map] <;> omega)) only [hd, e3, e4, d1, ev_fldE, grd_t, ev_pick, lpK_n, lpK_e, lpK_r, lpK_g, Int.toNat_natCast, app_own, sk_giveP, ev_giveP, pub_excl2, pub_own, sk_loadG, sk_ment, sk_mest, ev_ment, ev_mest, ev_loadG, sk_mkM, sk_lkp, sk_upd, ev_mkM, ev_mkM1, ev_eqA, apM_some, ev_lkp, ev_lkpN, ev_upd, ev_lenMp, ev_lenMn, stepK_callv, callvK_fn, ev_idxP, sk_giveO, sk_cpy, sk_slcP, ro_slo, ro1_slo, ro2_slo, got_slo, flg_slo, exc_slo, ev_giveO_x, ev_giveO_nil, ev_giveO_slo, ev_giveO_ro, ev_lenO, ev_eqNs3, ev_idxO, apO_some, ev_b2O, ev_appO, slcO_hi, slcO_lo, slcO_both, slcP_all, ev_cpS, slcO_clone, flg_undef, flg_bool, flg_int, flg_str, flg_nilS, flg_nilP, flg_ptr, flg_agg, flg_tup, flg_nilF, flg_fn, flg_nilM, flg_mp, flg_elv, flg_ro, flg_full, flg_own, flg_excl, exc_undef, exc_bool, exc_int, exc_str, exc_nilS, exc_nilP, exc_ptr, exc_agg, exc_tup, exc_nilF, exc_fn, exc_nilM, exc_mp, exc_elv, exc_ro, exc_full, exc_own, exc_excl, sk_idxB, idxB_ro, idxB_full, idxB_own, idxB_excl, idxB_O, grd_s, swp_seq, swp_reg, swp_skip, swp_ret, swp_exit, swp_label, swp_goto, swp_block, swp_scope, swp_both, swp_cond, seqK_n, seqK_e, seqK_r, seqK_g, blkK_n, blkK_e, blkK_r, blkK_g, noG_n, noG_e, noG_r, scpK_n, scpK_e, scpK_r, scpK_g, condK_t, condK_f, evK_some, appK_eq, appC_eq, grd_t, srun_nil, srun_cons, stepK_call, stepK_grd, fin_ret, fin_n, fin_nil, fin_two, fin_three, swpF_eq, sk_mv, sk_take, sk_give, sk_pick, sk_bin, sk_eqB, sk_eqN, sk_eqA, sk_un, sk_cvI, sk_b2s, sk_s2b, sk_idS, sk_nilc, sk_fld, sk_fldV, sk_idxS, sk_idxV, sk_idxA, sk_idxP, sk_load, sk_store, sk_lenS, sk_lenL, sk_lenA, sk_lenM, sk_min, sk_max, sk_slcS, sk_slcL, sk_mkS, sk_bsl, sk_bld, sk_box, sk_alloc, sk_ext, sk_app, sk_mfn, get_mk, raw_slot, raw_lit, put_some, put_none, wb_nil, wb_cons, ev_mv, ev_take, ev_give, ev_pick, ev_eqB, ev_not, ev_cvI, ev_nilc, ev_fld, ev_lenS, ev_lenL, ev_lenN, ev_min, ev_max, ev_eqNs1, ev_eqNs2, ev_eqNp1, ev_eqNp2, ev_ext, bin_add, bin_sub, bin_mul, bin_and, bin_or, bin_xor, bin_eql, bin_neq, bin_lss, bin_leq, bin_gtr, bin_geq, bin_eqlS, bin_neqS, bin_lssS, unr_succ, unrK_n, unrK_e, unrK_r, unrK_g, ev_b2sN, bsl_nil, ev_bsl, ev_bld, ev_box, ev_alloc, ev_ldP, ldP_some, stP_some, setOb_setOb, setOb_len, ev_loadE, slcS_hi, slcS_lo, slcS_both, slcL_hi_ro, slcL_lo_ro, slcL_both_ro, idxA_ro, slcL_hi_full, slcL_lo_full, slcL_both_full, idxA_full, slcL_hi_own, slcL_lo_own, slcL_both_own, idxA_own, slcL_nil_hi, slcL_nil_both, app_excl_str, ro_undef, ro_int, ro_bool, ro_str, ro_nilS, ro_nilP, ro_nilF, ro_nilM, ro_ptr, ro_mp, ro_fn, ro_elv, ro_ro, ro_full, ro_own, ro_excl, ro_agg, ro_tup, ro1_int, ro1_str, ro1_bool, ro1_nilS, ro2_nilS, ro1_nilP, ro2_nilP, ro1_nilF, ro2_nilF, ro1_nilM, ro2_nilM, ro1_ptr, ro2_ptr, ro1_mp, ro2_mp, ro1_fn, ro2_fn, ro1_ro, ro2_ro, ro1_full, ro2_full, ro1_own, ro2_own, ro2_int, ro2_str, ro2_bool, got_excl, got_own, got_roo, got_full, got_int, got_bool, got_str, got_nilS, got_nilP, got_ptr, got_fn, got_mp, got_undef, got_agg, pub_excl, pubs, pubsFrom, List.map_cons, List.map_nil, List.getD_cons_zero, List.getD_cons_succ, List.set_cons_zero, List.set_cons_succ, List.getElem?_cons_zero, List.getElem?_cons_succ, List.length_cons, List.length_nil, List.replicate_succ, List.replicate_zero, List.cons_append, List.nil_append, Nat.reduceAdd, Nat.reduceSub, Nat.reduceMul, Nat.reduceLeDiff, Nat.reduceLT, Nat.reduceEqDiff, if_true, if_false, true_and, and_true, Bool.false_eq_true, Option.map_some, Option.bind_some, ↓reduceIte, List.all_cons, List.all_nil, Bool.and_true, Bool.and_self, List.zip_cons_cons, List.zip_nil_left, List.zip_nil_right, rep, fillV, wrCells, cellsV, isCell, List.flatten_cons, List.flatten_nil, List.append_nil, decide_true, decide_false, Nat.zero_mul, Nat.mul_one, Nat.zero_add, reduceCtorEq, not_false_eq_true, forall_const, implies_true, Bool.not_true, Bool.not_false, beq_self_eq_true, bne_self_eq_false, Int.reduceBEq, Int.reduceBNe, st_bool, st_int, st_str, st_nilS, st_nilP, st_ptr, st_nilF, st_fn, st_nilM, st_mp, st_ro, st_full, setOb_same, ge_iff_le, gt_iff_lt, Int.cast_ofNat_Int, or_step, or_zero, Int.zero_mul, Int.reduceLE, Int.reduceLT, Int.reduceMul, Int.reduceSub, Int.reduceAdd, Int.reduceToNat, Int.reduceNeg, Int.reducePow, Nat.reducePow, IntKind.bits, wrap_i64, wrap_u8, bin_shr, bin_shl, Nat.min_def, ne_eq, Nat.one_ne_zero, List.length_append, Nat.le_refl, not_true_eq_false, app_excl, app_nil, ev_cvI]
    exact ⟨_, .same, rfl⟩
def K11 : List SV → List Ob → SV → List Ob → Prop := fun args st r st' => ∃ v l, rdR fC v l ∧ l.length ≤ 1099511627776 ∧ (∀ c ∈ l, c.ad.length ≤ 1099511627776 ∧ c.plain.length ≤ 1099511627776) ∧ args = [v] ∧ r = .bool (fewF l) ∧ st' = st
def O48 : Orc := O47.add 11 K11
theorem s48 : Sound Proofs.Try.prog O48 := s47.add c11 (by kernel_rfl) (by
  rintro args st r st' ⟨v, l, hv, hl, hs, rfl, rfl, rfl⟩
  exact ⟨by simp [sf11], k11 _ hv hl hs _⟩)
end Go.Sh.F
