/-
  The document's vault: Open; VaultPlays, in the shadow machine.
-/
import Derived.Test.YtmbaokfcdfhfeaaV16
set_option linter.unusedSimpArgs false
set_option linter.unusedVariables false
namespace Go.Sh.F
def openL (key : Int) (ad : List UInt8) (h : Int) : List (Int × Sd) → List UInt8 × Int
  | [] => ([], 7)
  | p :: l => if (p.1 == h && p.2.1 == key && p.2.2.1 == ad) = true then (p.2.2.2, 0) else openL key ad h l
theorem openL_no {key : Int} {ad : List UInt8} {h : Int} : ∀ {l : List (Int × Sd)}, h ∉ l.map (·.1) → openL key ad h l = ([], 7)
  | [], _ => rfl
  | p :: l, hn => by
    rw [List.map_cons, List.mem_cons, not_or] at hn
    have : (p.1 == h) = false := beq_eq_false_iff_ne.2 fun e => hn.1 e.symm
    simp only [openL, this, Bool.false_and, Bool.false_eq_true, if_false]
    exact openL_no hn.2
theorem openL_eq {V : VS} (hn : (V.s.map (·.1)).Nodup) (key : Int) (ad : List UInt8) (h : Int) : openF V key ad h = openL key ad h V.s := by
  unfold openF
  generalize V.s = l at hn
  induction l with
  | nil => rfl
  | cons p l ih =>
    rw [List.map_cons, List.nodup_cons] at hn
    simp only [mget, openL]
    by_cases hp : h = p.1
    · subst hp
      simp only [beq_self_eq_true, if_true, Bool.true_and]
      split
      · rfl
      · rw [openL_no hn.1]
    · have h1 : (h == p.1) = false := beq_eq_false_iff_ne.2 hp
      have h2 : (p.1 == h) = false := beq_eq_false_iff_ne.2 fun e => hp e.symm
      simp only [h1, h2, Bool.false_eq_true, if_false, Bool.false_and]
      exact ih hn.2
set_option maxHeartbeats 4000000 in
theorem k16 (O : Orc) {st : List Ob} {y : Nat} {V : VS} (h : st[y]? = some (Yob V)) (ho : okSt st) (hl : V.s.length ≤ 10000) (key : Int) (ad : List UInt8) (x : Int) :
    swpF O sf16 [.ptr y 0, .int .i64 key, .str ad, .int .i64 x] st (fun r st' => r = .tup [.str (openL key ad x V.s).1, .int .i64 (openL key ad x V.s).2] ∧ st' = st) := by
  have hy := (List.getElem?_eq_some_iff.1 h).1
  obtain ⟨lv, hlv⟩ : ∃ lv, lv = ownV fO 4 V.s := ⟨_, rfl⟩
  obtain ⟨nv, hnv⟩ : ∃ nv, nv = ownV fN 3 V.n := ⟨_, rfl⟩
  have h' : st[y]? = some (.cells [lv, nv]) := by rw [h, hlv, hnv]; rfl
  have hu : ro lv = roV fO V.s := by rw [hlv]; exact ro_ownV
  generalize V.s = L at *
  obtain ⟨hro, hgot, hexc, hflg, hla⟩ := rdR_facts (roV_rd (f := fO) (l := L))
  simp (maxSteps := 2000000) (disch := first | omega | (simp only [List.length_append, List.length_cons, List.length_nil, List.length_map] <;> omega)) only [sf16, flg_int, flg_str, exc_int, swp_seq, swp_reg, swp_block, seqK_n, evK_some, appK_eq, srun_nil, srun_cons, swpF_eq, sk_take, sk_give, raw_lit, put_some, wb_nil, ev_take, ev_give, ro_int, ro_str, got_int, List.map_cons, List.map_nil, List.set_cons_zero, List.set_cons_succ, List.length_cons, List.length_nil, List.replicate_succ, List.replicate_zero, List.cons_append, List.nil_append, Nat.reduceAdd, Nat.reduceSub, Bool.false_eq_true, ↓reduceIte, Nat.zero_add]
  refine swp_lp (fun S => ∃ (i : Nat), i ≤ L.length ∧ openL key ad x (L.drop i) = openL key ad x L ∧
      S = ⟨[.ptr y 0, .int .i64 key, .str ad, .int .i64 x, .undef, .undef, .undef, .undef, .str [], .int .i64 0, .int .i64 i] ++ List.replicate 35 .undef, st⟩)
      (fun S => match S.get 10 with | .int _ k => ((L.length : Int) - k).toNat | _ => 0)
      ⟨[.ptr y 0, .int .i64 key, .str ad, .int .i64 x, .undef, .undef, .undef, .undef, .str [], .int .i64 0, .int .i64 0] ++ List.replicate 35 .undef, st⟩ ?_ ⟨0, by omega, rfl, rfl⟩ ?_
  · refine Forget.of ?_
    repeat first | exact fg_e | refine fg_d ?_ | refine fg_k rfl ?_
  rintro S ⟨i, hi, ha, rfl⟩
  by_cases him : i = L.length
  · subst him
    have hd : decide ((L.length : Int) < (L.length : Int)) = false := by simp
    rw [List.drop_length] at ha
    rw [← ha]
    simp (maxSteps := 2000000) (disch := first | omega | (simp only [List.length_append, List.length_cons, List.length_nil, List.length_map] <;> omega)) only [h', hu, hla, hd, openL, lpK_e, flg_int, flg_str, swp_seq, swp_reg, swp_ret, swp_exit, swp_cond, seqK_n, seqK_e, blkK_e, condK_f, evK_some, appK_eq, srun_nil, srun_cons, fin_two, sk_mv, sk_give, sk_bin, sk_nilc, sk_fld, sk_load, sk_lenL, get_mk, raw_slot, raw_lit, put_some, wb_nil, ev_mv, ev_give, ev_nilc, ev_fld, bin_lss, ev_ldP, ldP_some, ro_int, ro_str, ro_ptr, List.map_cons, List.map_nil, List.getD_cons_zero, List.getD_cons_succ, List.set_cons_zero, List.set_cons_succ, List.getElem?_cons_zero, List.replicate_succ, List.replicate_zero, List.cons_append, List.nil_append, true_and, Bool.false_eq_true, Option.map_some, ↓reduceIte, Nat.zero_add]
    exact ⟨_, .same, rfl⟩
  have hil : i < L.length := by omega
  have hd : decide ((i : Int) < (L.length : Int)) = true := by simp; omega
  rw [List.drop_eq_getElem_cons hil] at ha
  simp only [openL] at ha
  rw [roV_some hil] at hu hla
  have h5 := fO_len L
  obtain ⟨p, hp⟩ : ∃ p, p = L[i] := ⟨_, rfl⟩
  rw [← hp] at ha
  have e5 : ∀ st, ev st (.load 4 true) [.elv (L.flatMap fO) (i * 4)] = some (.agg [.int .i64 p.1, .int .i64 p.2.1, .str p.2.2.1, .str p.2.2.2], [], st) := fun st => by
    rw [ev_ldE (by omega), flatMap_drop (f := fO) (n := 4) (fun _ => rfl) L i p (by rw [hp]; exact List.getElem?_eq_getElem hil)]; rfl
  have hst := st_agg (st := st ++ [.cells [.int .i64 0, .int .i64 0, .str [], .str []]]) (b := true) get_end (show [SV.int .i64 p.1, .int .i64 p.2.1, .str p.2.2.1, .str p.2.2.2].all plainV = true from rfl) (n := 4) rfl rfl
  rw [set_end] at hst
  have hge : (st ++ [Ob.cells [.int .i64 p.1, .int .i64 p.2.1, .str p.2.2.1, .str p.2.2.2]])[st.length]? = some (.cells [.int .i64 p.1, .int .i64 p.2.1, .str p.2.2.1, .str p.2.2.2]) := get_end
  have fin : ((L.length : Int) - ((i + 1 : Nat) : Int)).toNat < ((L.length : Int) - (i : Int)).toNat := by omega
  have hid : idOks st.length ([.ptr y 0, .int .i64 key, .str ad, .int .i64 x, .undef, .undef, .undef, .undef, .str [], .int .i64 0, .int .i64 ((i + 1 : Nat) : Int)] ++ List.replicate 35 .undef) = true := by
    simp [idOks, idOk, hy]
  cases q1 : p.1 == x with
  | false =>
    rw [q1, Bool.false_and, Bool.false_and, if_neg (by simp)] at ha
    simp (maxSteps := 2000000) (disch := first | omega | (simp only [List.length_append, List.length_cons, List.length_nil, List.length_map] <;> omega)) only [h', hu, hla, hd, e5, hst, hge, q1, grd_t, ev_pick, lpK_n, Int.toNat_natCast, flg_int, sk_idxB, idxB_ro, swp_seq, swp_reg, swp_skip, swp_block, swp_cond, seqK_n, blkK_n, condK_t, condK_f, evK_some, appK_eq, grd_t, srun_nil, srun_cons, stepK_grd, sk_mv, sk_give, sk_pick, sk_bin, sk_nilc, sk_fld, sk_load, sk_store, sk_lenL, sk_alloc, get_mk, raw_slot, raw_lit, put_some, put_none, wb_nil, ev_mv, ev_give, ev_pick, ev_nilc, ev_fld, bin_add, bin_eql, bin_lss, ev_alloc, ev_ldP, ldP_some, ro_int, ro_bool, ro_ptr, List.map_cons, List.map_nil, List.getD_cons_zero, List.getD_cons_succ, List.set_cons_zero, List.set_cons_succ, List.getElem?_cons_zero, List.replicate_succ, List.replicate_zero, List.cons_append, List.nil_append, Bool.false_eq_true, Option.map_some, ↓reduceIte, Nat.zero_add, wrap_i64]
    refine ⟨_, Forget.cut ?_ (Nat.le_refl _) (by simp) hid ho, ⟨i + 1, by omega, ha, rfl⟩, fin⟩
    repeat first | exact fg_e | refine fg_d ?_ | refine fg_k rfl ?_
  | true =>
  cases q2 : p.2.1 == key with
  | false =>
    rw [q1, q2, Bool.and_false, Bool.false_and, if_neg (by simp)] at ha
    simp (maxSteps := 2000000) (disch := first | omega | (simp only [List.length_append, List.length_cons, List.length_nil, List.length_map] <;> omega)) only [h', hu, hla, hd, e5, hst, hge, q1, q2, grd_t, ev_pick, lpK_n, Int.toNat_natCast, flg_int, exc_int, sk_idxB, idxB_ro, swp_seq, swp_reg, swp_skip, swp_block, swp_cond, seqK_n, blkK_n, condK_t, condK_f, evK_some, appK_eq, grd_t, srun_nil, srun_cons, stepK_grd, sk_mv, sk_take, sk_give, sk_pick, sk_bin, sk_nilc, sk_fld, sk_load, sk_store, sk_lenL, sk_alloc, get_mk, raw_slot, raw_lit, put_some, put_none, wb_nil, ev_mv, ev_take, ev_give, ev_pick, ev_nilc, ev_fld, bin_add, bin_eql, bin_lss, ev_alloc, ev_ldP, ldP_some, ro_int, ro_bool, ro_ptr, got_int, List.map_cons, List.map_nil, List.getD_cons_zero, List.getD_cons_succ, List.set_cons_zero, List.set_cons_succ, List.getElem?_cons_zero, List.getElem?_cons_succ, List.replicate_succ, List.replicate_zero, List.cons_append, List.nil_append, Bool.false_eq_true, Option.map_some, ↓reduceIte, Nat.zero_add, wrap_i64]
    refine ⟨_, Forget.cut ?_ (Nat.le_refl _) (by simp) hid ho, ⟨i + 1, by omega, ha, rfl⟩, fin⟩
    repeat first | exact fg_e | refine fg_d ?_ | refine fg_k rfl ?_
  | true =>
  cases q3 : p.2.2.1 == ad with
  | false =>
    rw [q1, q2, q3, Bool.and_false, if_neg (by simp)] at ha
    simp (maxSteps := 2000000) (disch := first | omega | (simp only [List.length_append, List.length_cons, List.length_nil, List.length_map] <;> omega)) only [h', hu, hla, hd, e5, hst, hge, q1, q2, q3, grd_t, ev_pick, lpK_n, Int.toNat_natCast, flg_int, exc_int, exc_str, sk_idxB, idxB_ro, swp_seq, swp_reg, swp_skip, swp_block, swp_cond, seqK_n, blkK_n, condK_t, condK_f, evK_some, appK_eq, grd_t, srun_nil, srun_cons, stepK_grd, sk_mv, sk_take, sk_give, sk_pick, sk_bin, sk_nilc, sk_fld, sk_load, sk_store, sk_lenL, sk_alloc, get_mk, raw_slot, raw_lit, put_some, put_none, wb_nil, ev_mv, ev_take, ev_give, ev_pick, ev_nilc, ev_fld, bin_add, bin_eql, bin_lss, bin_eqlS, ev_alloc, ev_ldP, ldP_some, ro_int, ro_bool, ro_str, ro_ptr, got_int, got_str, List.map_cons, List.map_nil, List.getD_cons_zero, List.getD_cons_succ, List.set_cons_zero, List.set_cons_succ, List.getElem?_cons_zero, List.getElem?_cons_succ, List.replicate_succ, List.replicate_zero, List.cons_append, List.nil_append, Bool.false_eq_true, Option.map_some, ↓reduceIte, Nat.zero_add, wrap_i64]
    refine ⟨_, Forget.cut ?_ (Nat.le_refl _) (by simp) hid ho, ⟨i + 1, by omega, ha, rfl⟩, fin⟩
    repeat first | exact fg_e | refine fg_d ?_ | refine fg_k rfl ?_
  | true =>
    rw [q1, q2, q3, Bool.and_true, Bool.and_true, if_pos rfl] at ha
    rw [← ha]
    simp (maxSteps := 2000000) (disch := first | omega | (simp only [List.length_append, List.length_cons, List.length_nil, List.length_map] <;> omega)) only [h', hu, hla, hd, e5, hst, hge, q1, q2, q3, grd_t, ev_pick, lpK_r, Int.toNat_natCast, flg_int, flg_str, exc_int, exc_str, sk_idxB, idxB_ro, swp_seq, swp_reg, swp_skip, swp_ret, swp_block, swp_cond, seqK_n, seqK_r, blkK_r, condK_t, evK_some, appK_eq, grd_t, srun_nil, srun_cons, stepK_grd, fin_two, sk_mv, sk_take, sk_give, sk_pick, sk_bin, sk_nilc, sk_fld, sk_load, sk_store, sk_lenL, sk_alloc, get_mk, raw_slot, raw_lit, put_some, put_none, wb_nil, ev_mv, ev_take, ev_give, ev_pick, ev_nilc, ev_fld, bin_eql, bin_lss, bin_eqlS, ev_alloc, ev_ldP, ldP_some, ro_int, ro_bool, ro_str, ro_ptr, got_int, got_str, List.map_cons, List.map_nil, List.getD_cons_zero, List.getD_cons_succ, List.set_cons_zero, List.set_cons_succ, List.getElem?_cons_zero, List.getElem?_cons_succ, List.replicate_succ, List.replicate_zero, List.cons_append, List.nil_append, true_and, Bool.false_eq_true, Option.map_some, ↓reduceIte, Nat.zero_add]
    exact ⟨st, trim1 ho rfl, rfl⟩
def K16 : List SV → List Ob → SV → List Ob → Prop := fun args st r st' => ∃ y V key ad x, st[y]? = some (Yob V) ∧ okSt st ∧ V.s.length ≤ 10000 ∧ args = [.ptr y 0, .int .i64 key, .str ad, .int .i64 x] ∧
  r = .tup [.str (openL key ad x V.s).1, .int .i64 (openL key ad x V.s).2] ∧ st' = st
def K18 : List SV → List Ob → SV → List Ob → Prop := fun args st r st' => ∃ y V key label nonce, st[y]? = some (Yob V) ∧ V.n.length ≤ 10000 ∧ (V.t = V.n.map fun p => (p.2, true)) ∧ args = [.ptr y 0, .int .i64 key, .str label, .int .i64 nonce] ∧
  r = .tup [.int .i64 (nameF V key label nonce).1.1, .int .i64 (nameF V key label nonce).1.2] ∧ st' = st.set y (Yob (nameF V key label nonce).2)
def O54 : Orc := O53.add 18 K18
theorem s54 : Sound Proofs.Try.prog O54 := s53.add c18 (by kernel_rfl) (by
  rintro args st r st' ⟨y, V, key, label, nonce, h, hl, ht, rfl, rfl, rfl⟩
  exact ⟨by simp [sf18], k18 h hl ht key label nonce⟩)
def O55 : Orc := O54.add 16 K16
theorem s55 : Sound Proofs.Try.prog O55 := s54.add c16 (by kernel_rfl) (by
  rintro args st r st' ⟨y, V, key, ad, x, h, ho, hl, rfl, rfl, rfl⟩
  exact ⟨by simp [sf16], k16 _ h ho hl key ad x⟩)
end Go.Sh.F
