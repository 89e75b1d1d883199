/-
  Pad and Strip, in the shadow machine.
-/
import Derived.Test.YtfiigeiajhecoaaT31
set_option linter.unusedSimpArgs false
set_option linter.unusedVariables false
namespace Go.Sh.F
def zer (n : Nat) : List UInt8 := List.replicate n 0
theorem zer_len (n : Nat) : (zer n).length = n := by simp [zer]
theorem rep_zer (n : Nat) : rep n [.int .u8 0] = bsv (zer n) := by
  unfold rep
  induction n with
  | zero => rfl
  | succ n ih => rw [List.replicate_succ, List.flatten_cons, ih]; rfl
theorem ev_mkz {st : List Ob} {n : Int} (h0 : 0 ≤ n) (h : n ≤ 1073741824) : ev st (.mkS 1 1 [.int .u8 0]) [.int .i64 n, .int .i64 n] = some (.sl (bsv (zer n.toNat)) n.toNat (.excl 1), [], st) := by
  show (if _ then _ else _) = _
  rw [if_pos ⟨h0, rfl, by omega, h⟩, rep_zer]
theorem ev_cpz {st : List Ob} {n id : Nat} {X : List UInt8} {f : Fl} (h : st[id]? = some (.cells (bsv (zer n)))) (hl : X.length ≤ n) :
    ev st (.cpy 1) [.slo id 0 n, .sl (bsv X) X.length f] = some (.int .i64 X.length, [], st.set id (.cells (bsv (X ++ zer (n - X.length))))) := by
  rw [ev_cpS, h, apO_some, if_pos ⟨hl, by rw [bsv_len]; omega, by rw [bsv_len, bsv_len, zer_len]; omega⟩]
  unfold setOb
  rw [List.take_zero, List.nil_append, bsv_len, bsv_drop, bsv_app]
  congr 5
  simp [zer]
def padF (s : List UInt8) : List UInt8 × Int := if s.length ≤ 5116 then (strB s ++ zer ((sizeF (bucketF s.length)).toNat - (strB s).length), 0) else ([], 5)
theorem bucket_size {n : Nat} (h : n ≤ 5116) : ∃ z : Nat, sizeF (bucketF n) = z ∧ n + 4 ≤ z ∧ z ≤ 5120 ∧ bucketF n ≥ 0 := by
  unfold bucketF
  rw [if_neg (by omega)]
  split
  · exact ⟨80, rfl, by omega, by omega, by omega⟩
  · split
    · exact ⟨320, rfl, by omega, by omega, by omega⟩
    · split
      · exact ⟨1280, rfl, by omega, by omega, by omega⟩
      · rw [if_pos (by omega)]
        exact ⟨5120, rfl, by omega, by omega, by omega⟩
theorem bucket_none {n : Nat} (h : 5116 < n) : bucketF n = -1 := by
  unfold bucketF
  rw [if_neg (by omega), if_neg (by omega), if_neg (by omega), if_neg (by omega), if_neg (by omega)]
theorem strB_len' {s : List UInt8} (h : s.length ≤ 16384) : (strB s).length = s.length + 4 := by
  rw [strB_eq, List.length_append, be4_len, List.take_of_length_le h]; omega
theorem idOks_bsv' (k : Nat) (l : List UInt8) : idOks k (bsv l) = true := by
  induction l with
  | nil => rfl
  | cons x l ih => simp only [bsv, List.map_cons, idOks, idOk, Bool.true_and] at ih ⊢; exact ih
theorem l28 {f : FuncId} {a : List SV} {s s' : List Ob} {r : SV} (h : O28 f a s r s') : O37 f a s r s' := .inl (.inl (.inl (.inl (.inl (.inl (.inl (.inl (.inl h))))))))
theorem l16 {f : FuncId} {a : List SV} {s s' : List Ob} {r : SV} (h : O16 f a s r s') : O37 f a s r s' := l28 (.inl (.inl (.inl (.inl (.inl (.inl (.inl (.inl (.inl (.inl (.inl (.inl h))))))))))))
set_option maxHeartbeats 1000000 in
theorem k35 (s : List UInt8) (st : List Ob) (h : okSt st) (hs : s.length ≤ 1073741824) : swpF O37 sf35 [.str s] st (fun r st' => r = .tup [.str (padF s).1, .int .i64 (padF s).2] ∧ st' = st) := by
  have c39 : O37 39 [.int .i64 s.length] st (.int .i64 (bucketF s.length)) st := .inl (.inl (.inl (.inr ⟨rfl, h, _, rfl, rfl, rfl⟩)))
  have c41 : O37 41 [.int .i64 (bucketF s.length)] st (.int .i64 (sizeF (bucketF s.length))) st := .inl (.inl (.inr ⟨rfl, h, _, rfl, rfl, rfl⟩))
  simp (maxSteps := 2000000) (disch := first | omega | (simp only [List.length_append, List.length_cons, List.length_nil, List.length_map] <;> omega)) only [sf35, flg_int, flg_str, exc_int, swp_seq, swp_reg, seqK_n, evK_some, appK_eq, srun_nil, srun_cons, stepK_call, swpF_eq, sk_mv, sk_give, sk_lenS, get_mk, raw_slot, raw_lit, put_some, wb_nil, ev_mv, ev_give, ev_lenS, ro_int, ro_str, got_int, pubs, pubsFrom, List.map_cons, List.map_nil, List.getD_cons_zero, List.getD_cons_succ, List.set_cons_zero, List.set_cons_succ, List.length_cons, List.length_nil, List.replicate_succ, List.replicate_zero, List.cons_append, List.nil_append, Nat.reduceSub, Bool.false_eq_true, ↓reduceIte, Nat.zero_add]
  refine callK_intro c39 ?_
  simp (maxSteps := 2000000) (disch := first | omega | (simp only [List.length_append, List.length_cons, List.length_nil, List.length_map] <;> omega)) only [exc_int, appC_eq, srun_cons, stepK_call, get_mk, raw_slot, put_some, wb_nil, got_int, pubs, pubsFrom, List.map_cons, List.map_nil, List.getD_cons_zero, List.getD_cons_succ, List.set_cons_zero, List.set_cons_succ, Bool.false_eq_true, ↓reduceIte]
  refine callK_intro c41 ?_
  by_cases h1 : s.length ≤ 5116
  case neg =>
    have e : sizeF (bucketF s.length) = 0 := by rw [bucket_none (by omega)]; rfl
    have ep : padF s = ([], 5) := by unfold padF; rw [if_neg h1]
    rw [e]
    simp (maxSteps := 2000000) (disch := first | omega | (simp only [List.length_append, List.length_cons, List.length_nil, List.length_map] <;> omega)) only [flg_int, flg_str, swp_seq, swp_reg, swp_ret, swp_cond, seqK_n, seqK_r, condK_t, evK_some, appK_eq, appC_eq, srun_nil, srun_cons, fin_two, sk_mv, sk_give, sk_bin, get_mk, raw_slot, raw_lit, put_some, wb_nil, ev_mv, ev_give, bin_eql, ro_int, ro_str, List.map_cons, List.map_nil, List.getD_cons_zero, List.getD_cons_succ, List.set_cons_zero, List.set_cons_succ, Bool.false_eq_true, ↓reduceIte, beq_self_eq_true]
    exact ⟨_, .same, by rw [ep], rfl⟩
  obtain ⟨z, hz, z1, z2, z3⟩ := bucket_size h1
  have ep : padF s = (strB s ++ zer (z - (strB s).length), 0) := by unfold padF; rw [if_pos h1, hz]; rfl
  rw [hz, ep]
  have hb : (((z : Nat) : Int) == 0) = false := by simp; omega
  have hl := strB_len' (s := s) (by omega)
  have hmk := ev_mkz (st := st) (n := (z : Int)) (by omega) (by omega)
  have hcp := ev_cpz (st := st ++ [.cells (bsv (zer z))]) (n := z) (id := st.length) (X := strB s) (f := .excl 1) get_end (by omega)
  rw [set_end] at hcp
  generalize hX : strB s ++ zer (z - (strB s).length) = X at hcp
  have hXl : X.length = z := by rw [← hX, List.length_append, zer_len]; omega
  have hb2 := b2O_bsv (st := st ++ [.cells (bsv X)]) (id := st.length) (n := z) (l := X) get_end hXl.symm
  have c15 : O37 15 [.nilS, .str s] (st ++ [.cells (bsv (zer z))]) (.sl (bsv (strB s)) (strB s).length (.excl 1)) (st ++ [.cells (bsv (zer z))]) :=
    l16 (w14n s)
  simp (maxSteps := 2000000) (disch := first | omega | (simp only [List.length_append, List.length_cons, List.length_nil, List.length_map] <;> omega)) only [hb, hmk, Int.toNat_natCast, sk_giveO, ro_slo, ev_giveO_x, flg_int, exc_str, exc_nilS, swp_seq, swp_reg, swp_skip, swp_cond, seqK_n, condK_f, evK_some, appK_eq, appC_eq, srun_nil, srun_cons, stepK_call, sk_mv, sk_give, sk_bin, sk_mkS, get_mk, raw_slot, raw_lit, put_some, wb_nil, wb_cons, ev_mv, ev_give, bin_eql, ro_int, ro_str, got_str, got_nilS, pubs, pubsFrom, List.map_cons, List.map_nil, List.getD_cons_zero, List.getD_cons_succ, List.set_cons_zero, List.set_cons_succ, List.getElem?_cons_zero, Bool.false_eq_true, ↓reduceIte]
  refine callK_intro c15 ?_
  simp (maxSteps := 2000000) (disch := first | omega | (simp only [List.length_append, List.length_cons, List.length_nil, List.length_map] <;> omega)) only [hcp, hb2, sk_cpy, ro_slo, flg_int, flg_str, swp_seq, swp_reg, swp_ret, seqK_n, evK_some, appK_eq, appC_eq, srun_nil, srun_cons, fin_two, sk_mv, sk_give, sk_b2s, get_mk, raw_slot, raw_lit, put_some, wb_nil, ev_mv, ev_give, ro_int, ro_str, List.map_cons, List.map_nil, List.getD_cons_zero, List.getD_cons_succ, List.set_cons_zero, List.set_cons_succ, true_and, Bool.false_eq_true, ↓reduceIte]
  exact ⟨st, trim1 h rfl, rfl⟩
def K35 : List SV → List Ob → SV → List Ob → Prop := fun args st r st' => okSt st ∧ st' = st ∧ ∃ s, s.length ≤ 1073741824 ∧ args = [.str s] ∧ r = .tup [.str (padF s).1, .int .i64 (padF s).2]
def O38 : Orc := O37.add 35 K35
theorem s38 : Sound Proofs.Try.prog O38 := s37.add c35 (by kernel_rfl) (by
  rintro args st r st' ⟨h, rfl, s, hs, rfl, rfl⟩
  exact ⟨by simp [sf35], k35 s _ h hs⟩)
def stripF (s : List UInt8) : List UInt8 × Int := if padF (textF ⟨s, 0, 0⟩ s.length).1 = (s, 0) then ((textF ⟨s, 0, 0⟩ s.length).1, 0) else ([], 4)
set_option maxHeartbeats 1000000 in
theorem k37 (s : List UInt8) (st : List Ob) (h : okSt st) (hs : s.length ≤ 1073741824) : swpF O38 sf37 [.str s] st (fun r st' => r = .tup [.str (stripF s).1, .int .i64 (stripF s).2] ∧ st' = st) := by
  obtain ⟨x, p', e', t1, t2, t3, t4⟩ := textF_spec2 s 0 0 s.length (by omega)
  have hx : (textF ⟨s, 0, 0⟩ s.length).1 = x := by rw [t1]
  obtain ⟨v, hv⟩ : ∃ v : SV, v = .sl (bsv s) s.length .ro := ⟨_, rfl⟩
  have hrv : rdv v s := .inr hv
  have hxl : x.length ≤ s.length := by
    have := textF_spec ⟨s, 0, 0⟩ s.length (by simp)
    obtain ⟨y, q, e, y1, y2, y3⟩ := this
    rw [y1] at hx
    rw [← hx]
    exact y3
  have c22 : O38 22 [.sl (bsv s) s.length .ro] st (.ptr st.length 0) (st ++ [mV v 0 0]) := by
    refine .inl (l16 ?_)
    have := v21 (st := st) hrv (by omega)
    rwa [hv] at this ⊢
  have c25 : O38 25 [.ptr st.length 0, .int .i64 s.length] (st ++ [mV v 0 0]) (.str x) (st ++ [mV v p' e']) :=
    .inl (l16 (v24 (p := 0) hrv (by omega) (Nat.zero_le _) get_end t1 set_end.symm))
  have hok : okSt (st ++ [mV v p' e']) := okSt_app h fun k => by rw [hv]; simp [idOks, idOk, idOks_bsv']
  have c35 : O38 35 [.str x] (st ++ [mV v p' e']) (.tup [.str (padF x).1, .int .i64 (padF x).2]) (st ++ [mV v p' e']) := .inr ⟨rfl, hok, rfl, x, by omega, rfl, rfl⟩
  simp (maxSteps := 2000000) (disch := first | omega | (simp only [List.length_append, List.length_cons, List.length_nil, List.length_map] <;> omega)) only [sf37, ev_s2b, flg_int, flg_str, exc_excl, swp_seq, swp_reg, seqK_n, evK_some, appK_eq, srun_nil, srun_cons, stepK_call, swpF_eq, sk_mv, sk_give, sk_s2b, get_mk, raw_slot, raw_lit, put_some, wb_nil, ev_mv, ev_give, ro_int, ro_str, got_excl, pub_excl, pubs, pubsFrom, List.map_cons, List.map_nil, List.getD_cons_zero, List.getD_cons_succ, List.set_cons_zero, List.set_cons_succ, List.length_cons, List.length_nil, List.replicate_succ, List.replicate_zero, List.cons_append, List.nil_append, Nat.reduceSub, Bool.false_eq_true, ↓reduceIte, Nat.zero_add]
  refine callK_intro c22 ?_
  simp (maxSteps := 2000000) (disch := first | omega | (simp only [List.length_append, List.length_cons, List.length_nil, List.length_map] <;> omega)) only [exc_int, exc_ptr, evK_some, appK_eq, appC_eq, srun_cons, stepK_call, sk_mv, sk_lenS, get_mk, raw_slot, put_some, wb_nil, wb_cons, ev_mv, ev_lenS, ro_str, got_int, got_ptr, pubs, pubsFrom, List.map_cons, List.map_nil, List.getD_cons_zero, List.getD_cons_succ, List.set_cons_zero, List.set_cons_succ, List.getElem?_cons_zero, Bool.false_eq_true, ↓reduceIte]
  refine callK_intro c25 ?_
  simp (maxSteps := 2000000) (disch := first | omega | (simp only [List.length_append, List.length_cons, List.length_nil, List.length_map] <;> omega)) only [flg_str, exc_str, swp_seq, swp_reg, seqK_n, evK_some, appK_eq, appC_eq, srun_nil, srun_cons, stepK_call, sk_mv, sk_give, get_mk, raw_slot, put_some, wb_nil, ev_mv, ev_give, ro_str, got_str, pubs, pubsFrom, List.map_cons, List.map_nil, List.getD_cons_zero, List.getD_cons_succ, List.set_cons_zero, List.set_cons_succ, Bool.false_eq_true, ↓reduceIte]
  refine callK_intro c35 ?_
  have hsf : stripF s = if padF x = (s, 0) then (x, 0) else ([], 4) := by unfold stripF; rw [hx]
  rw [hsf]
  clear hsf
  generalize padF x = P
  obtain ⟨P1, P2⟩ := P
  by_cases he : P2 = 0
  case neg =>
    have hb : (P2 != 0) = true := by simpa using he
    rw [if_neg (by intro h; exact he (Prod.mk.inj h).2)]
    simp (maxSteps := 2000000) (disch := first | omega | (simp only [List.length_append, List.length_cons, List.length_nil, List.length_map] <;> omega)) only [hb, grd_t, ev_pick, flg_int, flg_str, swp_seq, swp_reg, swp_ret, swp_cond, seqK_n, seqK_r, condK_t, evK_some, appK_eq, appC_eq, grd_t, srun_nil, srun_cons, stepK_grd, fin_two, sk_mv, sk_give, sk_pick, sk_bin, sk_ext, get_mk, raw_slot, raw_lit, put_some, wb_nil, ev_mv, ev_give, ev_pick, ev_ext, bin_neq, ro_int, ro_bool, ro_str, ro_tup, ro2_int, ro2_str, List.map_cons, List.map_nil, List.getD_cons_zero, List.getD_cons_succ, List.set_cons_zero, List.set_cons_succ, List.getElem?_cons_zero, List.getElem?_cons_succ, true_and, Bool.false_eq_true, Option.map_some, ↓reduceIte, reduceCtorEq]
    exact ⟨st, trim1 h rfl, rfl⟩
  subst he
  by_cases hp : P1 = s
  · subst hp
    have hb : (P1 != P1) = false := by simp
    rw [if_pos rfl]
    simp (maxSteps := 2000000) (disch := first | omega | (simp only [List.length_append, List.length_cons, List.length_nil, List.length_map] <;> omega)) only [grd_t, ev_pick, flg_int, flg_str, exc_str, swp_seq, swp_reg, swp_skip, swp_ret, swp_cond, seqK_n, condK_f, evK_some, appK_eq, appC_eq, grd_t, srun_nil, srun_cons, stepK_grd, fin_two, sk_mv, sk_take, sk_give, sk_pick, sk_bin, sk_ext, get_mk, raw_slot, raw_lit, put_some, wb_nil, ev_mv, ev_take, ev_give, ev_pick, ev_ext, bin_neq, bin_neqS, ro_int, ro_bool, ro_str, ro_tup, ro2_int, ro2_str, got_str, List.map_cons, List.map_nil, List.getD_cons_zero, List.getD_cons_succ, List.set_cons_zero, List.set_cons_succ, List.getElem?_cons_zero, List.getElem?_cons_succ, true_and, Bool.false_eq_true, Option.map_some, ↓reduceIte, Bool.not_true, beq_self_eq_true, bne_self_eq_false]
    exact ⟨st, trim1 h rfl, rfl⟩
  · have hb : (P1 == s) = false := by simpa using hp
    rw [if_neg (by intro h; exact hp (Prod.mk.inj h).1)]
    simp (maxSteps := 2000000) (disch := first | omega | (simp only [List.length_append, List.length_cons, List.length_nil, List.length_map] <;> omega)) only [hb, Bool.not_false, grd_t, ev_pick, flg_int, flg_str, exc_str, swp_seq, swp_reg, swp_ret, swp_cond, seqK_n, seqK_r, condK_t, evK_some, appK_eq, appC_eq, grd_t, srun_nil, srun_cons, stepK_grd, fin_two, sk_mv, sk_take, sk_give, sk_pick, sk_bin, sk_ext, get_mk, raw_slot, raw_lit, put_some, wb_nil, ev_mv, ev_take, ev_give, ev_pick, ev_ext, bin_neq, bin_neqS, ro_int, ro_bool, ro_str, ro_tup, ro2_int, ro2_str, got_str, List.map_cons, List.map_nil, List.getD_cons_zero, List.getD_cons_succ, List.set_cons_zero, List.set_cons_succ, List.getElem?_cons_zero, List.getElem?_cons_succ, true_and, Bool.false_eq_true, Option.map_some, ↓reduceIte, Bool.not_false, bne_self_eq_false]
    exact ⟨st, trim1 h rfl, rfl⟩
def K37 : List SV → List Ob → SV → List Ob → Prop := fun args st r st' => okSt st ∧ st' = st ∧ ∃ s, s.length ≤ 1073741824 ∧ args = [.str s] ∧ r = .tup [.str (stripF s).1, .int .i64 (stripF s).2]
def O39 : Orc := O38.add 37 K37
theorem s39 : Sound Proofs.Try.prog O39 := s38.add c37 (by kernel_rfl) (by
  rintro args st r st' ⟨h, rfl, s, hs, rfl, rfl⟩
  exact ⟨by simp [sf37], k37 s _ h hs⟩)
/-! The document's own. -/
theorem l37 {f : FuncId} {a : List SV} {s s' : List Ob} {r : SV} (h : O37 f a s r s') : O39 f a s r s' := .inl (.inl h)
set_option maxHeartbeats 1000000 in
theorem k36 (s : List UInt8) (st : List Ob) (hs : s.length ≤ 1073741824) : swpF O39 sf36 [.str s] st (fun r st' => r = .tup [.str (padF s).1, .int .i64 (padF s).2] ∧ st' = st) := by
  have c40 : O39 40 [.int .i64 s.length] st (.int .i64 (bucketF s.length)) st := l37 (.inr ⟨rfl, _, rfl, rfl, rfl⟩)
  have c42 : O39 42 [.int .i64 (bucketF s.length)] st (.int .i64 (sizeF (bucketF s.length))) st := l37 (.inl (.inr ⟨rfl, _, rfl, rfl, rfl⟩))
  have c18 : O39 18 [.nilS, .str s] st (.sl (bsv (strB s)) (strB s).length (.excl 1)) st := by
    have := x18 (st := st) (v := .nilS) (A := []) (.inl ⟨rfl, rfl⟩) s (by simp)
    simp only [List.nil_append, List.length_nil, Nat.zero_add] at this
    exact l37 (l28 (.inl (.inl (.inl (.inl (.inl (.inl (.inl (.inl this)))))))))
  simp (maxSteps := 2000000) (disch := first | omega | (simp only [List.length_append, List.length_cons, List.length_nil, List.length_map] <;> omega)) only [sf36, flg_int, flg_str, exc_int, swp_seq, swp_reg, seqK_n, evK_some, appK_eq, srun_nil, srun_cons, stepK_call, swpF_eq, sk_mv, sk_give, sk_lenS, get_mk, raw_slot, raw_lit, put_some, wb_nil, ev_mv, ev_give, ev_lenS, ro_int, ro_str, got_int, pubs, pubsFrom, List.map_cons, List.map_nil, List.getD_cons_zero, List.getD_cons_succ, List.set_cons_zero, List.set_cons_succ, List.length_cons, List.length_nil, List.replicate_succ, List.replicate_zero, List.cons_append, List.nil_append, Nat.reduceSub, Bool.false_eq_true, ↓reduceIte, Nat.zero_add]
  refine callK_intro c40 ?_
  by_cases h1 : s.length ≤ 5116
  case neg =>
    have ep : padF s = ([], 5) := by unfold padF; rw [if_neg h1]
    rw [bucket_none (by omega)]
    simp (maxSteps := 2000000) (disch := first | omega | (simp only [List.length_append, List.length_cons, List.length_nil, List.length_map] <;> omega)) only [flg_int, flg_str, swp_seq, swp_reg, swp_ret, swp_cond, seqK_n, seqK_r, condK_t, evK_some, appK_eq, appC_eq, srun_nil, srun_cons, fin_two, sk_mv, sk_give, sk_bin, get_mk, raw_slot, raw_lit, put_some, wb_nil, ev_mv, ev_give, bin_lss, ro_int, ro_str, List.map_cons, List.map_nil, List.getD_cons_zero, List.getD_cons_succ, List.set_cons_zero, List.set_cons_succ, Bool.false_eq_true, ↓reduceIte, decide_true, Int.reduceLT, Int.reduceNeg]
    exact ⟨_, .same, by rw [ep], rfl⟩
  obtain ⟨z, hz, z1, z2, z3⟩ := bucket_size h1
  have hl := strB_len' (s := s) (by omega)
  have ep : padF s = (strB s ++ zer (z - (strB s).length), 0) := by unfold padF; rw [if_pos h1, hz]; rfl
  have hb : decide (bucketF s.length < 0) = false := by simp; omega
  have hmk := ev_mkz (st := st) (n := (z : Int) - (strB s).length) (by omega) (by omega)
  rw [show ((z : Int) - (strB s).length).toNat = z - (strB s).length by omega] at hmk
  have hb2 : ev st .b2s [.sl (bsv (strB s)) (strB s).length (.excl 1)] = some (.str (strB s), [], st) := by rw [b2s_bsv, if_pos rfl]
  have hb3 : ev st .b2s [.sl (bsv (zer (z - (strB s).length))) (z - (strB s).length) (.excl 1)] = some (.str (zer (z - (strB s).length)), [], st) := by rw [b2s_bsv, if_pos (zer_len _).symm]
  have hzl := zer_len (z - (strB s).length)
  rw [ep]
  rw [hz] at c42
  simp (maxSteps := 2000000) (disch := first | omega | (simp only [List.length_append, List.length_cons, List.length_nil, List.length_map] <;> omega)) only [hb, flg_int, exc_str, exc_nilS, swp_seq, swp_reg, swp_skip, swp_cond, seqK_n, condK_f, evK_some, appK_eq, appC_eq, srun_nil, srun_cons, stepK_call, sk_mv, sk_give, sk_bin, get_mk, raw_slot, raw_lit, put_some, wb_nil, ev_mv, ev_give, bin_lss, ro_int, ro_str, got_str, got_nilS, pubs, pubsFrom, List.map_cons, List.map_nil, List.getD_cons_zero, List.getD_cons_succ, List.set_cons_zero, List.set_cons_succ, Bool.false_eq_true, ↓reduceIte]
  refine callK_intro c18 ?_
  simp (maxSteps := 2000000) (disch := first | omega | (simp only [List.length_append, List.length_cons, List.length_nil, List.length_map] <;> omega)) only [hb2, flg_str, exc_int, swp_seq, swp_reg, seqK_n, evK_some, appK_eq, appC_eq, srun_nil, srun_cons, stepK_call, sk_mv, sk_give, sk_b2s, get_mk, raw_slot, put_some, wb_nil, ev_mv, ev_give, ro_int, ro_str, got_int, pubs, pubsFrom, List.map_cons, List.map_nil, List.getD_cons_zero, List.getD_cons_succ, List.set_cons_zero, List.set_cons_succ, Bool.false_eq_true, ↓reduceIte]
  refine callK_intro c42 ?_
  simp (maxSteps := 2000000) (disch := first | omega | (simp only [List.length_append, List.length_cons, List.length_nil, List.length_map] <;> omega)) only [hmk, hb3, bin_addS, flg_int, flg_str, swp_ret, seqK_n, evK_some, appK_eq, appC_eq, srun_nil, srun_cons, fin_two, sk_mv, sk_give, sk_bin, sk_b2s, sk_lenS, sk_mkS, get_mk, raw_slot, raw_lit, put_some, wb_nil, ev_mv, ev_give, ev_lenS, bin_sub, ro_int, ro_str, List.map_cons, List.map_nil, List.getD_cons_zero, List.getD_cons_succ, List.set_cons_zero, List.set_cons_succ, true_and, Bool.false_eq_true, ↓reduceIte, wrap_i64]
  exact ⟨_, .same, rfl⟩
def K36 : List SV → List Ob → SV → List Ob → Prop := fun args st r st' => st' = st ∧ ∃ s, s.length ≤ 1073741824 ∧ args = [.str s] ∧ r = .tup [.str (padF s).1, .int .i64 (padF s).2]
def O40 : Orc := O39.add 36 K36
theorem s40 : Sound Proofs.Try.prog O40 := s39.add c36 (by kernel_rfl) (by
  rintro args st r st' ⟨rfl, s, hs, rfl, rfl⟩
  exact ⟨by simp [sf36], k36 s _ hs⟩)
theorem textF_fail {s : List UInt8} {p p' : Nat} {e' most : Int} {x : List UInt8} (h : textF ⟨s, p, 0⟩ most = (x, ⟨s, p', e'⟩)) (he : e' ≠ 0) : x = [] := by
  unfold textF at h
  simp only at h
  split at h
  · exact (Prod.mk.inj h).1.symm
  · rename_i h0
    split at h
    · exact (Prod.mk.inj h).1.symm
    · have := congrArg (fun q => q.2.e) h
      simp only at this
      exact absurd (fun hh => he (this.symm.trans hh)) h0
set_option maxHeartbeats 1000000 in
theorem k38 (s : List UInt8) (st : List Ob) (h : okSt st) (hs : s.length ≤ 1073741824) : swpF O40 sf38 [.str s] st (fun r st' => r = .tup [.str (stripF s).1, .int .i64 (stripF s).2] ∧ st' = st) := by
  obtain ⟨x, p', e', t1, t2, t3, t4⟩ := textF_spec2 s 0 0 s.length (by omega)
  have hx : (textF ⟨s, 0, 0⟩ s.length).1 = x := by rw [t1]
  obtain ⟨v, hv⟩ : ∃ v : SV, v = .sl (bsv s) s.length .ro := ⟨_, rfl⟩
  have hrv : rdv v s := .inr hv
  have hxl : x.length ≤ s.length := by
    have := textF_spec ⟨s, 0, 0⟩ s.length (by simp)
    obtain ⟨y, q, e, y1, y2, y3⟩ := this
    rw [y1] at hx
    rw [← hx]
    exact y3
  have c26 : O40 26 [.ptr st.length 0, .int .i64 s.length] (st ++ [mV v 0 0]) (.str x) (st ++ [mV v p' e']) :=
    .inl (l37 (l28 (.inl (.inl (.inl (.inl (.inr ⟨rfl, v, s, 0, 0, st.length, s.length, hrv, by omega, Nat.zero_le _, get_end, rfl, by rw [t1], by rw [t1]; exact set_end.symm⟩)))))))
  have c36 : O40 36 [.str x] (st ++ [mV v p' e']) (.tup [.str (padF x).1, .int .i64 (padF x).2]) (st ++ [mV v p' e']) := .inr ⟨rfl, rfl, x, by omega, rfl, rfl⟩
  have hg : (st ++ [mV v p' e'])[st.length]? = some (.cells [v, .int .i64 p', .int .i64 e']) := get_end
  have hld : ev (st ++ [mV v p' e']) (.load 1 false) [.ptr st.length 2] = some (.int .i64 e', [], st ++ [mV v p' e']) := by
    rw [ev_loadP hg (by simp)]; rfl
  simp (maxSteps := 2000000) (disch := first | omega | (simp only [List.length_append, List.length_cons, List.length_nil, List.length_map] <;> omega)) only [sf38, ev_s2b, flg_int, flg_str, flg_ptr, exc_int, exc_ptr, exc_agg, exc_excl, swp_seq, swp_reg, seqK_n, evK_some, appK_eq, srun_nil, srun_cons, stepK_call, swpF_eq, sk_mv, sk_give, sk_s2b, sk_lenS, sk_bld, sk_box, get_mk, raw_slot, raw_lit, put_some, wb_nil, wb_cons, ev_mv, ev_give, ev_lenS, ev_bld, ev_box, ro_int, ro_str, ro_ptr, ro1_int, ro1_ro, got_excl, got_int, got_ptr, got_agg, pub_excl, pubs, pubsFrom, List.map_cons, List.map_nil, List.getD_cons_zero, List.getD_cons_succ, List.set_cons_zero, List.set_cons_succ, List.getElem?_cons_zero, List.length_cons, List.length_nil, List.replicate_succ, List.replicate_zero, List.cons_append, List.nil_append, Nat.reduceAdd, Nat.reduceSub, Nat.reduceLeDiff, and_true, Bool.false_eq_true, Option.map_some, ↓reduceIte, List.all_cons, List.all_nil, Bool.and_self, List.zip_cons_cons, List.zip_nil_right, fillV, wrCells, cellsV, isCell, Nat.zero_add]
  refine callK_intro (st' := st ++ [mV v p' e']) (r := .str x) (by rw [hv] at c26 ⊢; exact c26) ?_
  simp (maxSteps := 2000000) (disch := first | omega | (simp only [List.length_append, List.length_cons, List.length_nil, List.length_map] <;> omega)) only [flg_str, exc_str, swp_seq, swp_reg, seqK_n, evK_some, appK_eq, appC_eq, srun_nil, srun_cons, stepK_call, sk_mv, sk_give, get_mk, raw_slot, put_some, wb_nil, ev_mv, ev_give, ro_str, got_str, pubs, pubsFrom, List.map_cons, List.map_nil, List.getD_cons_zero, List.getD_cons_succ, List.set_cons_zero, List.set_cons_succ, Bool.false_eq_true, ↓reduceIte]
  refine callK_intro c36 ?_
  simp (maxSteps := 2000000) (disch := first | omega | (simp only [List.length_append, List.length_cons, List.length_nil, List.length_map] <;> omega)) only [hld, flg_int, flg_str, exc_int, exc_str, swp_seq, swp_reg, seqK_n, evK_some, appK_eq, appC_eq, grd_t, srun_nil, srun_cons, stepK_grd, sk_mv, sk_take, sk_give, sk_pick, sk_bin, sk_nilc, sk_fld, sk_load, sk_ext, get_mk, raw_slot, raw_lit, put_some, wb_nil, ev_mv, ev_take, ev_give, ev_pick, ev_nilc, ev_fld, ev_ext, bin_neq, bin_neqS, ro_int, ro_bool, ro_str, ro_ptr, ro_tup, ro2_int, ro2_str, got_int, got_str, List.map_cons, List.map_nil, List.getD_cons_zero, List.getD_cons_succ, List.set_cons_zero, List.set_cons_succ, List.getElem?_cons_zero, List.getElem?_cons_succ, Bool.false_eq_true, Option.map_some, ↓reduceIte, Nat.zero_add]
  have hsf : stripF s = if padF x = (s, 0) then (x, 0) else ([], 4) := by unfold stripF; rw [hx]
  by_cases he : e' = 0
  case neg =>
    have hb0 : (e' != 0) = true := by simpa using he
    have hx0 := textF_fail (p := 0) t1 he
    have hne : padF x ≠ (s, 0) := by
      intro hp
      subst hx0
      have : s = zer 80 := ((Prod.mk.inj hp).1).symm.trans (by decide +kernel)
      subst this
      have h2 : textF ⟨zer 80, 0, 0⟩ ((zer 80).length : Nat) = ([], ⟨zer 80, 4, 0⟩) := by kernel_rfl
      have := t1.symm.trans h2
      exact he (congrArg (fun q => q.2.e) this)
    rw [hsf, if_neg hne]
    simp (maxSteps := 2000000) (disch := first | omega | (simp only [List.length_append, List.length_cons, List.length_nil, List.length_map] <;> omega)) only [hb0, grd_t, ev_pick, flg_int, flg_str, swp_seq, swp_reg, swp_ret, swp_cond, seqK_n, seqK_r, condK_t, evK_some, appK_eq, grd_t, srun_nil, srun_cons, fin_two, sk_give, get_mk, raw_slot, raw_lit, put_some, wb_nil, ev_give, ev_pick, ro_int, ro_bool, ro_str, List.map_cons, List.map_nil, List.getD_cons_zero, List.getD_cons_succ, List.set_cons_zero, List.set_cons_succ, true_and, Bool.false_eq_true, ↓reduceIte, reduceCtorEq]
    exact ⟨st, trim1 h rfl, rfl⟩
  subst he
  have hb0 : ((0 : Int) != 0) = false := by simp
  simp (maxSteps := 2000000) (disch := first | omega | (simp only [List.length_append, List.length_cons, List.length_nil, List.length_map] <;> omega)) only [hb0, grd_t, ev_pick, swp_cond, seqK_n, evK_some, appK_eq, grd_t, srun_nil, get_mk, raw_slot, put_some, wb_nil, ev_pick, ro_bool, List.getD_cons_zero, List.getD_cons_succ, List.set_cons_zero, List.set_cons_succ, Bool.false_eq_true, ↓reduceIte]
  rw [hsf]
  clear hsf
  generalize padF x = P
  obtain ⟨P1, P2⟩ := P
  by_cases he : P2 = 0
  case neg =>
    have hb : (P2 != 0) = true := by simpa using he
    rw [show (if (P1, P2) = (s, 0) then (x, (0 : Int)) else ([], 4)) = ([], 4) from if_neg (by intro h; exact he (Prod.mk.inj h).2)]
    simp (maxSteps := 2000000) (disch := first | omega | (simp only [List.length_append, List.length_cons, List.length_nil, List.length_map] <;> omega)) only [hb, flg_int, flg_str, swp_seq, swp_reg, swp_ret, seqK_n, seqK_r, condK_t, evK_some, appK_eq, srun_nil, srun_cons, fin_two, sk_give, get_mk, raw_lit, put_some, wb_nil, ev_give, ro_int, ro_bool, ro_str, List.map_cons, List.map_nil, List.getD_cons_zero, List.getD_cons_succ, List.set_cons_zero, List.set_cons_succ, true_and, Bool.false_eq_true, ↓reduceIte, reduceCtorEq]
    exact ⟨st, trim1 h rfl, rfl⟩
  subst he
  by_cases hp : P1 = s
  · subst hp
    have hb : (P1 != P1) = false := by simp
    rw [show (if (P1, (0 : Int)) = (P1, 0) then (x, (0 : Int)) else ([], 4)) = (x, 0) from if_pos rfl]
    simp (maxSteps := 2000000) (disch := first | omega | (simp only [List.length_append, List.length_cons, List.length_nil, List.length_map] <;> omega)) only [flg_int, flg_str, swp_seq, swp_reg, swp_skip, swp_ret, seqK_n, condK_f, evK_some, appK_eq, srun_nil, srun_cons, fin_two, sk_mv, sk_give, get_mk, raw_slot, raw_lit, put_some, wb_nil, ev_mv, ev_give, ro_int, ro_bool, ro_str, List.map_cons, List.map_nil, List.getD_cons_zero, List.getD_cons_succ, List.set_cons_zero, List.set_cons_succ, true_and, Bool.false_eq_true, ↓reduceIte, Bool.not_true, beq_self_eq_true, bne_self_eq_false]
    exact ⟨st, trim1 h rfl, rfl⟩
  · have hb : (P1 == s) = false := by simpa using hp
    rw [show (if (P1, (0 : Int)) = (s, 0) then (x, (0 : Int)) else ([], 4)) = ([], 4) from if_neg (by intro h; exact hp (Prod.mk.inj h).1)]
    simp (maxSteps := 2000000) (disch := first | omega | (simp only [List.length_append, List.length_cons, List.length_nil, List.length_map] <;> omega)) only [hb, Bool.not_false, flg_int, flg_str, swp_seq, swp_reg, swp_ret, seqK_n, seqK_r, condK_t, evK_some, appK_eq, srun_nil, srun_cons, fin_two, sk_give, get_mk, raw_lit, put_some, wb_nil, ev_give, ro_int, ro_bool, ro_str, List.map_cons, List.map_nil, List.getD_cons_zero, List.getD_cons_succ, List.set_cons_zero, List.set_cons_succ, true_and, Bool.false_eq_true, ↓reduceIte, Bool.not_false, bne_self_eq_false]
    exact ⟨st, trim1 h rfl, rfl⟩
def K38 : List SV → List Ob → SV → List Ob → Prop := fun args st r st' => okSt st ∧ st' = st ∧ ∃ s, s.length ≤ 1073741824 ∧ args = [.str s] ∧ r = .tup [.str (stripF s).1, .int .i64 (stripF s).2]
def O41 : Orc := O40.add 38 K38
theorem s41 : Sound Proofs.Try.prog O41 := s40.add c38 (by kernel_rfl) (by
  rintro args st r st' ⟨h, rfl, s, hs, rfl, rfl⟩
  exact ⟨by simp [sf38], k38 s _ h hs⟩)
end Go.Sh.F
