/-
  WireReads, in the shadow machine.
-/
import Derived.Test.YtfiigeiajhecoaaT23
set_option linter.unusedSimpArgs false
set_option linter.unusedVariables false
namespace Go.Sh.F
theorem flatMap_at {α β : Type} {f : α → List β} {n : Nat} (hn : 0 < n) (hf : ∀ x, (f x).length = n) : ∀ (l : List α) (m : Nat), (l.flatMap f)[m]? = (l[m / n]?).bind fun z => (f z)[m % n]?
  | [], m => by simp
  | x :: l, m => by
    rw [List.flatMap_cons]
    by_cases h : m < n
    · rw [List.getElem?_append_left (by rw [hf]; exact h), Nat.div_eq_of_lt h, Nat.mod_eq_of_lt h]; rfl
    · obtain ⟨k, rfl⟩ : ∃ k, m = k + n := ⟨m - n, by omega⟩
      rw [List.getElem?_append_right (by rw [hf]; omega), hf, Nat.add_sub_cancel, flatMap_at hn hf l k, Nat.add_div_right _ hn, Nat.add_mod_right]; rfl
theorem flatMap_drop {α β : Type} {f : α → List β} {n : Nat} (hf : ∀ x, (f x).length = n) : ∀ (l : List α) (i : Nat) (z : α), l[i]? = some z → ((l.flatMap f).drop (i * n)).take n = f z
  | [], i, z, h => by simp at h
  | x :: l, 0, z, h => by
    simp at h; subst h
    rw [List.flatMap_cons, Nat.zero_mul, List.drop_zero, List.take_append_of_le_length (by rw [hf]; omega), List.take_of_length_le (by rw [hf]; omega)]
  | x :: l, i + 1, z, h => by
    have h' : l[i]? = some z := by simpa using h
    rw [List.flatMap_cons, Nat.succ_mul, Nat.add_comm, ← hf x, List.drop_append, hf x]
    rw [List.drop_of_length_le (by rw [hf]; omega), List.nil_append, Nat.add_sub_cancel_left]
    exact flatMap_drop hf l i z h'
theorem flatMap_len {α β : Type} {f : α → List β} {n : Nat} (hf : ∀ x, (f x).length = n) (l : List α) : (l.flatMap f).length = l.length * n := by
  induction l with
  | nil => simp
  | cons x l ih => rw [List.flatMap_cons, List.length_append, ih, hf, List.length_cons, Nat.succ_mul]; omega
def f3 (z : Int × Int × Int) : List SV := [.int .i64 z.1, .int .i64 z.2.1, .int .i64 z.2.2]
def rd3 (v : SV) (l : List (Int × Int × Int)) : Prop := (v = .nilS ∧ l = []) ∨ v = .sl (l.flatMap f3) l.length .ro
theorem rd3_facts {v : SV} {l : List (Int × Int × Int)} (h : rd3 v l) : ro v = v ∧ got v = v ∧ exc v = false ∧ flg v = false ∧ ∀ st, ev st .lenL [v] = some (.int .i64 l.length, [], st) := by
  rcases h with ⟨rfl, rfl⟩ | rfl
  · exact ⟨rfl, rfl, rfl, rfl, fun _ => ev_lenN⟩
  · exact ⟨rfl, rfl, rfl, rfl, fun _ => ev_lenL⟩
theorem idOks_app (k : Nat) : ∀ a b : List SV, idOks k (a ++ b) = (idOks k a && idOks k b)
  | [], b => by simp [idOks]
  | x :: a, b => by simp [idOks, idOks_app k a b, Bool.and_assoc]
theorem idOks_bsv (k : Nat) (l : List UInt8) : idOks k (bsv l) = true := by
  induction l with
  | nil => rfl
  | cons x l ih => simp only [bsv, List.map_cons, idOks, idOk, Bool.true_and] at ih ⊢; exact ih
theorem idOks_f3 (k : Nat) (l : List (Int × Int × Int)) : idOks k (l.flatMap f3) = true := by
  induction l with
  | nil => rfl
  | cons x l ih => rw [List.flatMap_cons, idOks_app, ih]; rfl
theorem Forget.cut {k : Nat} {xs bs : List SV} {st st' : List Ob} (h : fg xs bs) (h1 : k ≤ st'.length) (h2 : st' = st.take st'.length) (h3 : idOks st'.length bs = true) (h4 : st'.all (obOk st'.length) = true) : Forget k ⟨xs, st⟩ ⟨bs, st'⟩ := ⟨fg_spec h, .inr ⟨h1, h2, h3, h4⟩⟩
theorem up16 {f : FuncId} {a : List SV} {s s' : List Ob} {r : SV} (h : O16 f a s r s') : O28 f a s r s' := .inl (.inl (.inl (.inl (.inl (.inl (.inl (.inl (.inl (.inl (.inl (.inl h)))))))))))
section
variable {v : SV} {l : List UInt8} {p p' : Nat} {e e' most each n : Int} {id : Nat} {st st' : List Ob}
theorem q24 (hv : rdv v l) (hl : l.length ≤ 1099511627776) (hp : p ≤ l.length) (h : st[id]? = some (mV v p e)) (hn : numF ⟨l, p, e⟩ most = (n, ⟨l, p', e'⟩)) (hs : st' = st.set id (mV v p' e')) : O28 24 [.ptr id 0, .int .i64 most] st (.int .i64 n) st' :=
  .inl (.inl (.inl (.inl (.inl (.inr ⟨rfl, v, l, p, e, id, most, hv, hl, hp, h, rfl, by rw [hn], by rw [hn, hs]; rfl⟩)))))
theorem q26 {x : List UInt8} (hv : rdv v l) (hl : l.length ≤ 1099511627776) (hp : p ≤ l.length) (h : st[id]? = some (mV v p e)) (hn : textF ⟨l, p, e⟩ most = (x, ⟨l, p', e'⟩)) (hs : st' = st.set id (mV v p' e')) : O28 26 [.ptr id 0, .int .i64 most] st (.str x) st' :=
  .inl (.inl (.inl (.inl (.inr ⟨rfl, v, l, p, e, id, most, hv, hl, hp, h, rfl, by rw [hn], by rw [hn, hs]; rfl⟩))))
theorem q29 {x : List (List UInt8)} (hv : rdv v l) (hl : l.length ≤ 1099511627776) (hp : p ≤ l.length) (h : st[id]? = some (mV v p e)) (hn : rowF ⟨l, p, e⟩ most each = (x, ⟨l, p', e'⟩)) (hs : st' = st.set id (mV v p' e')) : O28 29 [.ptr id 0, .int .i64 most, .int .i64 each] st (rowV x) st' :=
  .inl (.inl (.inr ⟨rfl, v, l, p, e, id, most, each, hv, hl, hp, h, rfl, by rw [hn], by rw [hn, hs]; rfl⟩))
theorem q31 (hv : rdv v l) (h : st[id]? = some (mV v p e)) (hn : endF ⟨l, p, e⟩ = ⟨l, p', e'⟩) (hs : st' = st.set id (mV v p' e')) : O28 31 [.ptr id 0] st (.int .i64 e') st' :=
  .inl (.inl (.inl (.inr ⟨rfl, v, l, p, e, id, hv, h, rfl, by rw [hn], by rw [hn, hs]; rfl⟩)))
end
theorem ev_idxP {st : List Ob} {es len id o : Nat} {k : IntKind} {i : Int} (h0 : 0 ≤ i) (h1 : i < len) : ev st (.idxP es len) [.ptr id o, .int k i] = some (.ptr id (o + i.toNat * es), [], st) := by
  show Option.map _ (if _ then _ else _) = _; rw [if_pos ⟨h0, h1⟩]; rfl
theorem rowF_len {l : List UInt8} {p p' : Nat} {e e' most each : Int} {y : List (List UInt8)} (hp : p ≤ l.length) (hl : l.length ≤ 1099511627776) (h : rowF ⟨l, p, e⟩ most each = (y, ⟨l, p', e'⟩)) : y.length ≤ 1099511627776 := by
  have key : ∀ n s, s.p ≤ s.l.length → (textsF each n s).1.length ≤ n := fun n s h => (textsF_l each n s h).2.2
  obtain ⟨n, q, f, n1, n2, n3, n4⟩ := numF_spec2 l p e (minI most 256) hp
  unfold rowF at h
  rw [n1] at h
  simp only at h
  split at h
  · have := congrArg (fun x => x.1.length) h; simp at this; omega
  · rename_i hf
    split at h
    · have := congrArg (fun x => x.1.length) h; simp at this; omega
    · have h1 := key (n : Int).toNat ⟨l, q, f⟩ n2
      have h2 := congrArg (fun x => x.1.length) h
      simp only [Int.toNat_natCast] at h1 h2
      have hf : f = 0 := Classical.byContradiction fun h => hf h
      by_cases he : e = 0
      · have := (n4 he hf).2.1
        omega
      · exact absurd ((n3 he).1.symm.trans hf) he
set_option maxHeartbeats 8000000 in
theorem fReads (v c : SV) (b : List UInt8) (zs : List (Int × Int × Int)) (hv : rdv v b) (hc : rd3 c zs) (hbl : b.length ≤ 1099511627776) (hzl : zs.length ≤ 1099511627776) :
    swpF O28 sf4 [v, c] [] (fun r _ => r = .bool true) := by
  obtain ⟨hro, hgot, hexc, hflg, hla⟩ := rdL_facts (f := fun x : UInt8 => .int .u8 x.toNat) hv
  obtain ⟨hro', hgot', hexc', hflg', hla'⟩ := rd3_facts hc
  have x12' : O28 12 [] [] (.bool true) [] := .inl (.inl (.inl (.inl (.inl (.inl (.inl (.inl x12)))))))
  have happ : ev [] (.app 1 1 [.int .u8 0]) [.sl [] 0 (.excl 1), v] = some (.sl (bsv b) b.length (.excl 1), [(0, .undef)], []) := by
    rcases hv with ⟨rfl, rfl⟩ | rfl
    · exact app_excl_nil (by simp) (by omega) (by omega)
    · rw [app_excl (by simp) (by simp [bsv]) (by omega) (by omega)]; simp [bsv]
  have hbld : ∀ st, ev st (.bld [.nilS, .int .i64 0, .int .i64 0] [(0, 1)]) [v] = some (.agg [v, .int .i64 0, .int .i64 0], [], st) := by
    intro st
    rcases hv with ⟨rfl, _⟩ | rfl <;> rfl
  have hbox : ∀ st, ev st .box [.agg [v, .int .i64 0, .int .i64 0]] = some (.ptr st.length 0, [], st ++ [mV v 0 0]) := by
    intro st
    rcases hv with ⟨rfl, _⟩ | rfl <;> rfl
  have hidv : ∀ k, idOk k v = true := by
    intro k
    rcases hv with ⟨rfl, _⟩ | rfl
    · rfl
    · exact idOks_bsv k b
  have hidc : ∀ k, idOk k c = true := by
    intro k
    rcases hc with ⟨rfl, _⟩ | rfl
    · rfl
    · exact idOks_f3 k zs
  obtain ⟨x, hx⟩ : ∃ x : SV, x = .sl (bsv b) b.length .ro := ⟨_, rfl⟩
  have hxv : rdv x b := .inr hx
  have c22 : O28 22 [.slo 0 0 b.length] [.cells (bsv b)] (.ptr 1 0) [.cells (bsv b), mV x 0 0] := .inr ⟨rfl, b, 0, hbl, rfl, rfl, rfl, by rw [hx]; rfl⟩
  simp (maxSteps := 2000000) (disch := first | omega | (simp only [List.length_append, List.length_cons, List.length_nil, List.length_map] <;> omega)) only [sf4, flg_bool, swp_seq, swp_reg, seqK_n, evK_some, appK_eq, srun_nil, srun_cons, stepK_call, swpF_eq, sk_give, raw_lit, put_some, wb_nil, ev_give, ro_bool, pubs, pubsFrom, List.map_cons, List.map_nil, List.set_cons_zero, List.set_cons_succ, List.length_cons, List.length_nil, List.replicate_succ, List.replicate_zero, List.cons_append, List.nil_append, Nat.reduceAdd, Nat.reduceSub, Bool.false_eq_true, ↓reduceIte, Nat.zero_add]
  refine callK_intro x12' ?_
  simp (maxSteps := 2000000) (disch := first | omega | (simp only [List.length_append, List.length_cons, List.length_nil, List.length_map] <;> omega)) only [happ, hro, sk_giveO, ro_slo, got_slo, exc_slo, ev_giveO_x, flg_bool, swp_seq, swp_reg, seqK_n, evK_some, appK_eq, appC_eq, srun_nil, srun_cons, stepK_call, sk_mv, sk_give, sk_bsl, sk_app, get_mk, raw_slot, put_some, wb_nil, wb_cons, ev_mv, ev_give, ev_bsl, ro_bool, pubs, pubsFrom, List.map_cons, List.map_nil, List.getD_cons_zero, List.getD_cons_succ, List.set_cons_zero, List.set_cons_succ, List.getElem?_cons_zero, List.length_nil, List.replicate_zero, List.nil_append, and_true, Bool.false_eq_true, Option.map_some, ↓reduceIte, List.all_nil, List.zip_nil_right, rep, fillV, List.flatten_nil, Nat.mul_one]
  refine callK_intro c22 ?_
  by_cases h1 : b.length ≤ 5000
  case neg =>
    have d1 : decide ((5000 : Int) < (b.length : Int)) = true := by simp; omega
    simp (maxSteps := 2000000) (disch := first | omega | (simp only [List.length_append, List.length_cons, List.length_nil, List.length_map] <;> omega)) only [d1, hbld, hbox, hro, hgot, hexc, hla, grd_t, ev_pick, flg_bool, flg_ptr, exc_ptr, swp_seq, swp_reg, swp_ret, swp_cond, seqK_n, seqK_r, condK_t, evK_some, appK_eq, appC_eq, grd_t, srun_nil, srun_cons, stepK_grd, fin_ret, sk_mv, sk_take, sk_give, sk_pick, sk_bin, sk_eqN, sk_lenL, sk_bld, sk_box, get_mk, raw_slot, raw_lit, put_some, wb_nil, ev_mv, ev_take, ev_give, ev_pick, ev_eqNp2, bin_gtr, ro_bool, ro_ptr, got_ptr, List.map_cons, List.map_nil, List.getD_cons_zero, List.getD_cons_succ, List.set_cons_zero, List.set_cons_succ, List.length_cons, List.length_nil, List.cons_append, List.nil_append, Nat.reduceAdd, and_true, Bool.false_eq_true, ↓reduceIte, Nat.zero_add, reduceCtorEq, gt_iff_lt]
    exact ⟨[], .inr ⟨by simp, by simp, rfl, rfl⟩⟩
  have d1 : decide ((5000 : Int) < (b.length : Int)) = false := by simp; omega
  by_cases h2 : zs.length ≤ 60
  case neg =>
    have d2 : decide ((60 : Int) < (zs.length : Int)) = true := by simp; omega
    simp (maxSteps := 2000000) (disch := first | omega | (simp only [List.length_append, List.length_cons, List.length_nil, List.length_map] <;> omega)) only [d1, d2, hbld, hbox, hro, hgot, hexc, hla, hgot', hexc', hla', grd_t, ev_pick, flg_bool, flg_ptr, exc_ptr, swp_seq, swp_reg, swp_ret, swp_cond, seqK_n, seqK_r, condK_t, evK_some, appK_eq, appC_eq, grd_t, srun_nil, srun_cons, stepK_grd, fin_ret, sk_mv, sk_take, sk_give, sk_pick, sk_bin, sk_eqN, sk_lenL, sk_bld, sk_box, get_mk, raw_slot, raw_lit, put_some, wb_nil, ev_mv, ev_take, ev_give, ev_pick, ev_eqNp2, bin_gtr, ro_bool, ro_ptr, got_ptr, List.map_cons, List.map_nil, List.getD_cons_zero, List.getD_cons_succ, List.set_cons_zero, List.set_cons_succ, List.length_cons, List.length_nil, List.cons_append, List.nil_append, Nat.reduceAdd, and_true, Bool.false_eq_true, ↓reduceIte, Nat.zero_add, gt_iff_lt]
    exact ⟨[], .inr ⟨by simp, by simp, rfl, rfl⟩⟩
  have d2 : decide ((60 : Int) < (zs.length : Int)) = false := by simp; omega
  simp (maxSteps := 2000000) (disch := first | omega | (simp only [List.length_append, List.length_cons, List.length_nil, List.length_map] <;> omega)) only [d1, d2, hbld, hbox, hro, hgot, hexc, hla, hgot', hexc', hla', grd_t, ev_pick, flg_ptr, exc_int, swp_seq, swp_reg, swp_skip, swp_block, swp_cond, seqK_n, condK_f, evK_some, appK_eq, appC_eq, grd_t, srun_nil, srun_cons, stepK_grd, sk_mv, sk_take, sk_give, sk_pick, sk_bin, sk_eqN, sk_lenL, sk_bld, sk_box, get_mk, raw_slot, raw_lit, put_some, wb_nil, ev_mv, ev_take, ev_give, ev_pick, ev_eqNp2, bin_gtr, ro_bool, ro_ptr, got_int, List.map_cons, List.map_nil, List.getD_cons_zero, List.getD_cons_succ, List.set_cons_zero, List.set_cons_succ, List.length_cons, List.length_nil, List.cons_append, List.nil_append, Nat.reduceAdd, Bool.false_eq_true, ↓reduceIte, Nat.zero_add, gt_iff_lt]
  refine swp_lp (fun S => ∃ (i : Nat) (Y : List UInt8), i ≤ b.length ∧ Y.length = b.length ∧
      S = ⟨[v, c, .undef, .undef, .undef, .bool true, .slo 0 0 b.length, .ptr 1 0, .ptr 2 0, .int .i64 i] ++ List.replicate 135 .undef, [.cells (bsv Y), mV x 0 0, mV v 0 0]⟩)
      (fun S => match S.get 9 with | .int _ k => ((b.length : Int) - k).toNat | _ => 0)
      ⟨[v, c, .undef, .undef, .undef, .bool true, .slo 0 0 b.length, .ptr 1 0, .ptr 2 0, .int .i64 0] ++ List.replicate 135 .undef, [.cells (bsv b), mV x 0 0, mV v 0 0]⟩ ?_ ⟨0, b, by omega, rfl, rfl⟩ ?_
  · refine Forget.of ?_
    repeat first | exact fg_e | refine fg_d ?_ | refine fg_k rfl ?_
  rintro S ⟨i, Y, hi, hyl, rfl⟩
  by_cases him : i = b.length
  case neg =>
    have hd : decide ((i : Int) < (b.length : Int)) = true := by simp; omega
    have hil : i < b.length := by omega
    have hyi : i < (bsv Y).length := by rw [bsv_len]; omega
    simp (maxSteps := 2000000) (disch := first | omega | (simp only [List.length_append, List.length_cons, List.length_nil, List.length_map] <;> omega)) only [hd, hyi, lpK_n, Int.toNat_natCast, ro_slo, ev_lenO, ev_idxO, flg_int, swp_seq, swp_reg, swp_skip, swp_block, swp_cond, seqK_n, blkK_n, condK_t, evK_some, appK_eq, srun_nil, srun_cons, sk_mv, sk_give, sk_bin, sk_idxA, sk_store, sk_lenL, get_mk, raw_slot, raw_lit, put_some, put_none, wb_nil, ev_mv, ev_give, bin_add, bin_lss, stP_some, ro_int, List.map_cons, List.map_nil, List.getD_cons_zero, List.getD_cons_succ, List.set_cons_zero, List.set_cons_succ, List.getElem?_cons_zero, List.length_cons, List.length_nil, List.replicate_succ, List.replicate_zero, List.cons_append, List.nil_append, Nat.reduceAdd, Bool.false_eq_true, ↓reduceIte, Nat.mul_one, Nat.zero_add, st_int, wrap_i64]
    refine ⟨_, ?_, ⟨i + 1, Y.set i 7, by omega, by simp [hyl], rfl⟩, ?_⟩
    · rw [show bsv (Y.set i 7) = (bsv Y).set i (.int .u8 7) by simp [bsv, List.map_set]]
      refine Forget.of ?_
      repeat first | exact fg_e | refine fg_d ?_ | refine fg_k rfl ?_
    · show ((b.length : Int) - ((i + 1 : Nat) : Int)).toNat < ((b.length : Int) - (i : Int)).toNat
      omega
  subst him
  have hd : decide ((b.length : Int) < (b.length : Int)) = false := by simp
  simp (maxSteps := 2000000) (disch := first | omega | (simp only [List.length_append, List.length_cons, List.length_nil, List.length_map] <;> omega)) only [hd, lpK_e, ro_slo, ev_lenO, exc_int, swp_seq, swp_reg, swp_exit, swp_block, swp_cond, seqK_n, seqK_e, blkK_e, condK_f, evK_some, appK_eq, srun_nil, srun_cons, sk_mv, sk_take, sk_bin, sk_lenL, get_mk, raw_slot, raw_lit, put_some, wb_nil, ev_mv, ev_take, bin_lss, ro_int, got_int, List.map_cons, List.map_nil, List.getD_cons_zero, List.getD_cons_succ, List.set_cons_zero, List.set_cons_succ, List.length_cons, List.length_nil, List.replicate_succ, List.replicate_zero, List.cons_append, List.nil_append, Nat.reduceAdd, Bool.false_eq_true, ↓reduceIte, Nat.zero_add]
  refine swp_lp (fun S => ∃ (i p : Nat) (e : Int), i ≤ zs.length ∧ p ≤ b.length ∧
      S = ⟨[v, c, .undef, .undef, .undef, .bool true, .undef, .ptr 1 0, .ptr 2 0, .undef, .int .i64 i] ++ List.replicate 134 .undef, [.cells (bsv Y), mV x p e, mV v p e]⟩)
      (fun S => match S.get 10 with | .int _ k => ((zs.length : Int) - k).toNat | _ => 0)
      ⟨[v, c, .undef, .undef, .undef, .bool true, .undef, .ptr 1 0, .ptr 2 0, .undef, .int .i64 0] ++ List.replicate 134 .undef, [.cells (bsv Y), mV x 0 0, mV v 0 0]⟩ ?_ ⟨0, 0, 0, by omega, by omega, rfl⟩ ?_
  · refine Forget.of ?_
    repeat first | exact fg_e | refine fg_d ?_ | refine fg_k rfl ?_
  rintro S ⟨i, p, e, hi, hp, rfl⟩
  by_cases him : i = zs.length
  · subst him
    have hd : decide ((zs.length : Int) < (zs.length : Int)) = false := by simp
    obtain ⟨e', i1, i2, i3⟩ := endF_spec2 b p e hp
    have c30 := up16 (v29 (st := [.cells (bsv Y), mV x p e, mV v p e]) (st' := [.cells (bsv Y), mV x p e', mV v p e]) (id := 1) hxv rfl i1 rfl)
    have c31 := q31 (st := [.cells (bsv Y), mV x p e', mV v p e]) (st' := [.cells (bsv Y), mV x p e', mV v p e']) (id := 2) hv rfl i1 rfl
    have c32 := up16 (v31 (v := x) (p := p) (e := e') (id := 1) (st := [.cells (bsv Y), mV x p e', mV v p e']) rfl)
    have e9 : (e' == e') = true := by simp
    simp (maxSteps := 2000000) (disch := first | omega | (simp only [List.length_append, List.length_cons, List.length_nil, List.length_map] <;> omega)) only [hd, hro', hla', grd_t, lpK_e, exc_ptr, swp_seq, swp_reg, swp_exit, swp_cond, seqK_n, seqK_e, blkK_e, condK_f, evK_some, appK_eq, grd_t, srun_nil, srun_cons, stepK_call, stepK_grd, sk_mv, sk_bin, sk_lenL, get_mk, raw_slot, put_some, wb_nil, ev_mv, bin_lss, ro_int, ro_bool, ro_ptr, got_ptr, pubs, pubsFrom, List.map_cons, List.map_nil, List.getD_cons_zero, List.getD_cons_succ, List.set_cons_zero, List.set_cons_succ, List.length_cons, List.length_nil, List.replicate_succ, List.replicate_zero, List.cons_append, List.nil_append, Nat.reduceAdd, Bool.false_eq_true, ↓reduceIte, Nat.zero_add]
    refine callK_intro c30 ?_
    simp (maxSteps := 2000000) (disch := first | omega | (simp only [List.length_append, List.length_cons, List.length_nil, List.length_map] <;> omega)) only [grd_t, exc_ptr, evK_some, appK_eq, appC_eq, grd_t, srun_cons, stepK_call, stepK_grd, sk_mv, get_mk, raw_slot, put_some, wb_nil, ev_mv, ro_ptr, got_ptr, pubs, pubsFrom, List.map_cons, List.map_nil, List.getD_cons_zero, List.getD_cons_succ, List.set_cons_zero, List.set_cons_succ, Bool.false_eq_true, ↓reduceIte]
    refine callK_intro c31 ?_
    simp (maxSteps := 2000000) (disch := first | omega | (simp only [List.length_append, List.length_cons, List.length_nil, List.length_map] <;> omega)) only [e9, grd_t, ev_pick, seqK_n, evK_some, appK_eq, appC_eq, grd_t, srun_nil, srun_cons, stepK_grd, sk_mv, sk_pick, sk_bin, sk_nilc, sk_fld, get_mk, raw_slot, raw_lit, put_some, wb_nil, ev_mv, ev_pick, ev_nilc, ev_fld, bin_eql, ro_bool, ro_ptr, List.map_cons, List.map_nil, List.getD_cons_zero, List.getD_cons_succ, List.set_cons_zero, List.set_cons_succ, ↓reduceIte, Nat.zero_add]
    apply swp_to
    · repeat' first
        | exact swp_ttI
        | refine swp_bothI ?_ ?_
        | refine callK_intro c32 ?_
        | exact ⟨rfl, rfl⟩
        | exact rfl
        | simp (maxSteps := 2000000) (disch := first | omega | (simp only [List.length_append, List.length_cons, List.length_nil, List.length_map] <;> omega)) only [e9, mV, grd_t, ev_pick, flg_bool, exc_ptr, swp_reg, evK_some, appK_eq, appC_eq, grd_t, srun_nil, srun_cons, stepK_call, stepK_grd, sk_give, sk_pick, sk_bin, sk_load, get_mk, raw_slot, raw_lit, put_some, wb_nil, ev_give, ev_pick, bin_eql, ev_ldP, ldP_some, ro_int, ro_bool, got_ptr, pubs, pubsFrom, List.map_cons, List.map_nil, List.getD_cons_zero, List.getD_cons_succ, List.set_cons_zero, List.set_cons_succ, List.getElem?_cons_zero, List.getElem?_cons_succ, true_and, Bool.false_eq_true, Option.map_some, ↓reduceIte]
    simp (maxSteps := 2000000) (disch := first | omega | (simp only [List.length_append, List.length_cons, List.length_nil, List.length_map] <;> omega)) only [swp_ret, seqK_n, fin_ret, get_mk, List.getD_cons_zero, List.getD_cons_succ, List.length_nil, and_true]
    exact ⟨[], .inr ⟨by simp, by simp, rfl, rfl⟩⟩
  have hd : decide ((i : Int) < (zs.length : Int)) = true := by simp; omega
  have hia : i < zs.length := by omega
  have hcs : c = .sl (zs.flatMap f3) zs.length .ro := by
    rcases hc with ⟨_, rfl⟩ | h
    · simp at hia
    · exact h
  have hsa : (zs.flatMap f3).length = zs.length * 3 := flatMap_len (f := f3) (fun _ => rfl) zs
  obtain ⟨⟨z0, z1, z2⟩, hz⟩ : ∃ z, z = zs[i] := ⟨_, rfl⟩
  have hdr : ((zs.flatMap f3).drop (i * 3)).take 3 = [.int .i64 z0, .int .i64 z1, .int .i64 z2] := by
    rw [flatMap_drop (f := f3) (fun _ => rfl) zs i (z0, z1, z2) (by rw [hz]; exact List.getElem?_eq_getElem hia)]; rfl
  obtain ⟨K, hand⟩ : ∃ K, ∀ st, ev st (.bin .and) [.int .i64 z0, .int .i64 3] = some (.int .i64 K, [], st) := ⟨_, fun _ => bin_and⟩
  clear hgot' hexc' hflg' hro' hla'
  subst hcs
  have hld : ∀ st, ev st (.load 3 true) [.elv (zs.flatMap f3) (i * 3)] = some (.agg [.int .i64 z0, .int .i64 z1, .int .i64 z2], [], st) := by
    intro st
    show ((partV 3 true (zs.flatMap f3) (i * 3)).map ro).map (fun r => (r, [], st)) = _
    unfold partV
    have h3 : i * 3 + 3 ≤ (zs.flatMap f3).length := by omega
    rw [if_pos h3, hdr]
    rfl
  have hst : ∀ (A B C : Ob), ev [A, B, C, .cells [.int .i64 0, .int .i64 0, .int .i64 0]] (.store 3 true) [.ptr 3 0, .agg [.int .i64 z0, .int .i64 z1, .int .i64 z2]] = some (.undef, [], [A, B, C, .cells [.int .i64 z0, .int .i64 z1, .int .i64 z2]]) := fun _ _ _ => rfl
  have hidx : ∀ k, idOk k x = true := fun k => by rw [hx]; exact idOks_bsv k b
  simp (maxSteps := 2000000) (disch := first | omega | (simp only [List.length_append, List.length_cons, List.length_nil, List.length_map] <;> omega)) only [hd, hand, hld, hst, ev_idxP, Int.toNat_natCast, flg_bool, exc_bool, swp_seq, swp_reg, swp_skip, swp_block, swp_cond, seqK_n, condK_t, evK_some, appK_eq, srun_nil, srun_cons, sk_mv, sk_take, sk_give, sk_bin, sk_idxA, sk_idxP, sk_load, sk_store, sk_lenL, sk_alloc, get_mk, raw_slot, raw_lit, put_some, put_none, wb_nil, ev_mv, ev_take, ev_give, ev_lenL, bin_eql, bin_lss, ev_alloc, ev_ldP, ldP_some, idxA_ro, ro_int, ro_bool, ro_ro, got_bool, List.map_cons, List.map_nil, List.getD_cons_zero, List.getD_cons_succ, List.set_cons_zero, List.set_cons_succ, List.getElem?_cons_zero, List.getElem?_cons_succ, List.length_cons, List.length_nil, List.replicate_succ, List.replicate_zero, List.cons_append, List.nil_append, Nat.reduceAdd, Bool.false_eq_true, Option.map_some, ↓reduceIte, Nat.mul_one, Nat.zero_add, Int.reduceToNat]
  have hk : K = 0 ∨ K = 1 ∨ K = 2 ∨ K = 3 ∨ (K ≠ 0 ∧ K ≠ 1 ∧ K ≠ 2 ∧ K ≠ 3) := by omega
  rcases hk with rfl | rfl | rfl | rfl | ⟨k0, k1, k2, k3⟩
  · obtain ⟨k, p', e', m1, hp', m3, m4⟩ := numF_spec2 b p e z1 hp
    have ca := up16 (v22 (st := [.cells (bsv Y), mV x p e, mV v p e, .cells [.int .i64 z0, .int .i64 z1, .int .i64 z2]]) (st' := [.cells (bsv Y), mV x p' e', mV v p e, .cells [.int .i64 z0, .int .i64 z1, .int .i64 z2]]) (id := 1) hxv hbl hp rfl m1 rfl)
    have cb := q24 (st := [.cells (bsv Y), mV x p' e', mV v p e, .cells [.int .i64 z0, .int .i64 z1, .int .i64 z2]]) (st' := [.cells (bsv Y), mV x p' e', mV v p' e', .cells [.int .i64 z0, .int .i64 z1, .int .i64 z2]]) (id := 2) hv hbl hp rfl m1 rfl
    have e9 : ((k : Int) == (k : Int)) = true := by simp
    have c32 := up16 (v31 (v := x) (p := p') (e := e') (id := 1) (st := [.cells (bsv Y), mV x p' e', mV v p' e', .cells [.int .i64 z0, .int .i64 z1, .int .i64 z2]]) rfl)
    have c33 := up16 (v32 (v := x) (p := p') (e := e') (id := 1) (st := [.cells (bsv Y), mV x p' e', mV v p' e', .cells [.int .i64 z0, .int .i64 z1, .int .i64 z2]]) rfl)
    have n8 : (e' != e') = false := by simp
    have n9 : ((p' : Int) != (p' : Int)) = false := by simp
    simp (maxSteps := 2000000) (disch := first | omega | (simp only [List.length_append, List.length_cons, List.length_nil, List.length_map] <;> omega)) only [ev_idxP, swp_seq, swp_reg, seqK_n, condK_t, evK_some, appK_eq, srun_nil, srun_cons, sk_mv, sk_idxP, sk_load, get_mk, raw_slot, raw_lit, put_some, wb_nil, ev_mv, ev_ldP, ldP_some, ro_int, ro_ptr, List.map_cons, List.map_nil, List.getD_cons_zero, List.getD_cons_succ, List.set_cons_zero, List.set_cons_succ, List.getElem?_cons_zero, List.getElem?_cons_succ, Option.map_some, Nat.mul_one, Nat.zero_add, beq_self_eq_true, Int.reduceToNat]
    apply swp_to
    · repeat' first
        | exact swp_ttI
        | refine swp_bothI ?_ ?_
        | refine callK_intro ca ?_
        | refine callK_intro cb ?_
        | exact ⟨rfl, rfl⟩
        | exact rfl
        | simp (maxSteps := 2000000) (disch := first | omega | (simp only [List.length_append, List.length_cons, List.length_nil, List.length_map] <;> omega)) only [e9, flg_bool, exc_int, exc_ptr, swp_reg, evK_some, appK_eq, appC_eq, srun_nil, srun_cons, stepK_call, sk_give, sk_bin, sk_load, get_mk, raw_slot, put_some, wb_nil, ev_give, bin_eql, ev_ldP, ldP_some, ro_int, ro_bool, got_int, got_ptr, pubs, pubsFrom, List.map_cons, List.map_nil, List.getD_cons_zero, List.getD_cons_succ, List.set_cons_zero, List.set_cons_succ, List.getElem?_cons_zero, List.getElem?_cons_succ, true_and, Bool.false_eq_true, Option.map_some, ↓reduceIte]
    simp (maxSteps := 2000000) (disch := first | omega | (simp only [List.length_append, List.length_cons, List.length_nil, List.length_map] <;> omega)) only [mV, grd_t, swp_seq, swp_reg, seqK_n, blkK_n, evK_some, appK_eq, grd_t, srun_nil, srun_cons, stepK_grd, sk_mv, sk_un, sk_nilc, sk_fld, get_mk, raw_slot, put_some, wb_nil, ev_mv, ev_not, ev_nilc, ev_fld, ro_bool, ro_ptr, List.map_cons, List.map_nil, List.getD_cons_zero, List.getD_cons_succ, List.set_cons_zero, List.set_cons_succ, ↓reduceIte, Nat.zero_add, Bool.not_true]
    apply swp_to
    · repeat' first
        | exact swp_ttI
        | refine swp_bothI ?_ ?_
        | refine callK_intro c32 ?_
        | refine callK_intro c33 ?_
        | exact ⟨rfl, rfl⟩
        | exact rfl
        | simp (maxSteps := 2000000) (disch := first | omega | (simp only [List.length_append, List.length_cons, List.length_nil, List.length_map] <;> omega)) only [n8, n9, mV, grd_t, ev_pick, exc_ptr, swp_seq, swp_reg, seqK_n, evK_some, appK_eq, appC_eq, grd_t, srun_nil, srun_cons, stepK_call, stepK_grd, sk_mv, sk_pick, sk_bin, sk_nilc, sk_fld, sk_load, get_mk, raw_slot, raw_lit, put_some, wb_nil, ev_mv, ev_pick, ev_nilc, ev_fld, bin_neq, ev_ldP, ldP_some, ro_int, ro_bool, ro_ptr, got_ptr, pubs, pubsFrom, List.map_cons, List.map_nil, List.getD_cons_zero, List.getD_cons_succ, List.set_cons_zero, List.set_cons_succ, List.getElem?_cons_zero, List.getElem?_cons_succ, true_and, Bool.false_eq_true, Option.map_some, ↓reduceIte, Nat.zero_add]
    simp (maxSteps := 2000000) (disch := first | omega | (simp only [List.length_append, List.length_cons, List.length_nil, List.length_map] <;> omega)) only [lpK_n, flg_int, swp_reg, swp_skip, swp_cond, seqK_n, blkK_n, condK_f, evK_some, appK_eq, srun_nil, srun_cons, sk_mv, sk_give, sk_bin, get_mk, raw_slot, raw_lit, put_some, wb_nil, ev_mv, ev_give, bin_add, ro_int, List.map_cons, List.map_nil, List.getD_cons_zero, List.getD_cons_succ, List.set_cons_zero, List.set_cons_succ, Bool.false_eq_true, ↓reduceIte, wrap_i64]
    refine ⟨_, ?_, ⟨i + 1, p', e', by omega, hp', rfl⟩, ?_⟩
    · refine Forget.cut ?_ (by simp) rfl ?_ ?_
      · repeat first | exact fg_e | refine fg_d ?_ | refine fg_k rfl ?_
      · simp [idOks, idOk, hidv, idOks_f3]
      · simp [obOk, idOks, idOk, hidv, idOks_bsv, hidx]
    · show ((zs.length : Int) - ((i + 1 : Nat) : Int)).toNat < ((zs.length : Int) - (i : Int)).toNat
      omega
  · obtain ⟨y, p', e', m1, hp', m3, m4⟩ := textF_spec2 b p e z1 hp
    have ca := up16 (v24 (st := [.cells (bsv Y), mV x p e, mV v p e, .cells [.int .i64 z0, .int .i64 z1, .int .i64 z2]]) (st' := [.cells (bsv Y), mV x p' e', mV v p e, .cells [.int .i64 z0, .int .i64 z1, .int .i64 z2]]) (id := 1) hxv hbl hp rfl m1 rfl)
    have cb := q26 (st := [.cells (bsv Y), mV x p' e', mV v p e, .cells [.int .i64 z0, .int .i64 z1, .int .i64 z2]]) (st' := [.cells (bsv Y), mV x p' e', mV v p' e', .cells [.int .i64 z0, .int .i64 z1, .int .i64 z2]]) (id := 2) hv hbl hp rfl m1 rfl
    have e9 : (y == y) = true := by simp
    have c32 := up16 (v31 (v := x) (p := p') (e := e') (id := 1) (st := [.cells (bsv Y), mV x p' e', mV v p' e', .cells [.int .i64 z0, .int .i64 z1, .int .i64 z2]]) rfl)
    have c33 := up16 (v32 (v := x) (p := p') (e := e') (id := 1) (st := [.cells (bsv Y), mV x p' e', mV v p' e', .cells [.int .i64 z0, .int .i64 z1, .int .i64 z2]]) rfl)
    have n8 : (e' != e') = false := by simp
    have n9 : ((p' : Int) != (p' : Int)) = false := by simp
    simp (maxSteps := 2000000) (disch := first | omega | (simp only [List.length_append, List.length_cons, List.length_nil, List.length_map] <;> omega)) only [ev_idxP, flg_bool, swp_seq, swp_reg, swp_cond, seqK_n, condK_t, condK_f, evK_some, appK_eq, srun_nil, srun_cons, sk_mv, sk_give, sk_bin, sk_idxP, sk_load, get_mk, raw_slot, raw_lit, put_some, wb_nil, ev_mv, ev_give, bin_eql, ev_ldP, ldP_some, ro_int, ro_bool, ro_ptr, List.map_cons, List.map_nil, List.getD_cons_zero, List.getD_cons_succ, List.set_cons_zero, List.set_cons_succ, List.getElem?_cons_zero, List.getElem?_cons_succ, Bool.false_eq_true, Option.map_some, ↓reduceIte, Nat.mul_one, Nat.zero_add, beq_self_eq_true, Int.reduceBEq, Int.reduceToNat]
    apply swp_to
    · repeat' first
        | exact swp_ttI
        | refine swp_bothI ?_ ?_
        | refine callK_intro ca ?_
        | refine callK_intro cb ?_
        | exact ⟨rfl, rfl⟩
        | exact rfl
        | simp (maxSteps := 2000000) (disch := first | omega | (simp only [List.length_append, List.length_cons, List.length_nil, List.length_map] <;> omega)) only [e9, flg_bool, exc_int, exc_ptr, swp_reg, evK_some, appK_eq, appC_eq, srun_nil, srun_cons, stepK_call, sk_give, sk_bin, sk_load, get_mk, raw_slot, put_some, wb_nil, ev_give, bin_eqlS, ev_ldP, ldP_some, ro_int, ro_bool, got_int, got_ptr, pubs, pubsFrom, List.map_cons, List.map_nil, List.getD_cons_zero, List.getD_cons_succ, List.set_cons_zero, List.set_cons_succ, List.getElem?_cons_zero, List.getElem?_cons_succ, true_and, Bool.false_eq_true, Option.map_some, ↓reduceIte]
    simp (maxSteps := 2000000) (disch := first | omega | (simp only [List.length_append, List.length_cons, List.length_nil, List.length_map] <;> omega)) only [mV, grd_t, swp_seq, swp_reg, seqK_n, blkK_n, evK_some, appK_eq, grd_t, srun_nil, srun_cons, stepK_grd, sk_mv, sk_un, sk_nilc, sk_fld, get_mk, raw_slot, put_some, wb_nil, ev_mv, ev_not, ev_nilc, ev_fld, ro_bool, ro_ptr, List.map_cons, List.map_nil, List.getD_cons_zero, List.getD_cons_succ, List.set_cons_zero, List.set_cons_succ, ↓reduceIte, Nat.zero_add, Bool.not_true]
    apply swp_to
    · repeat' first
        | exact swp_ttI
        | refine swp_bothI ?_ ?_
        | refine callK_intro c32 ?_
        | refine callK_intro c33 ?_
        | exact ⟨rfl, rfl⟩
        | exact rfl
        | simp (maxSteps := 2000000) (disch := first | omega | (simp only [List.length_append, List.length_cons, List.length_nil, List.length_map] <;> omega)) only [n8, n9, mV, grd_t, ev_pick, exc_ptr, swp_seq, swp_reg, seqK_n, evK_some, appK_eq, appC_eq, grd_t, srun_nil, srun_cons, stepK_call, stepK_grd, sk_mv, sk_pick, sk_bin, sk_nilc, sk_fld, sk_load, get_mk, raw_slot, raw_lit, put_some, wb_nil, ev_mv, ev_pick, ev_nilc, ev_fld, bin_neq, ev_ldP, ldP_some, ro_int, ro_bool, ro_ptr, got_ptr, pubs, pubsFrom, List.map_cons, List.map_nil, List.getD_cons_zero, List.getD_cons_succ, List.set_cons_zero, List.set_cons_succ, List.getElem?_cons_zero, List.getElem?_cons_succ, true_and, Bool.false_eq_true, Option.map_some, ↓reduceIte, Nat.zero_add]
    simp (maxSteps := 2000000) (disch := first | omega | (simp only [List.length_append, List.length_cons, List.length_nil, List.length_map] <;> omega)) only [lpK_n, flg_int, swp_reg, swp_skip, swp_cond, seqK_n, blkK_n, condK_f, evK_some, appK_eq, srun_nil, srun_cons, sk_mv, sk_give, sk_bin, get_mk, raw_slot, raw_lit, put_some, wb_nil, ev_mv, ev_give, bin_add, ro_int, List.map_cons, List.map_nil, List.getD_cons_zero, List.getD_cons_succ, List.set_cons_zero, List.set_cons_succ, Bool.false_eq_true, ↓reduceIte, wrap_i64]
    refine ⟨_, ?_, ⟨i + 1, p', e', by omega, hp', rfl⟩, ?_⟩
    · refine Forget.cut ?_ (by simp) rfl ?_ ?_
      · repeat first | exact fg_e | refine fg_d ?_ | refine fg_k rfl ?_
      · simp [idOks, idOk, hidv, idOks_f3]
      · simp [obOk, idOks, idOk, hidv, idOks_bsv, hidx]
    · show ((zs.length : Int) - ((i + 1 : Nat) : Int)).toNat < ((zs.length : Int) - (i : Int)).toNat
      omega
  · obtain ⟨y, p', e', m1, hp', m3, m4⟩ := rowF_spec2 b p e z1 z2 hp
    have ca := up16 (v27 (st := [.cells (bsv Y), mV x p e, mV v p e, .cells [.int .i64 z0, .int .i64 z1, .int .i64 z2]]) (st' := [.cells (bsv Y), mV x p' e', mV v p e, .cells [.int .i64 z0, .int .i64 z1, .int .i64 z2]]) (id := 1) hxv hbl hp rfl m1 rfl)
    have cb := q29 (st := [.cells (bsv Y), mV x p' e', mV v p e, .cells [.int .i64 z0, .int .i64 z1, .int .i64 z2]]) (st' := [.cells (bsv Y), mV x p' e', mV v p' e', .cells [.int .i64 z0, .int .i64 z1, .int .i64 z2]]) (id := 2) hv hbl hp rfl m1 rfl
    have e9 : decide (y = y) = true := by simp
    have c32 := up16 (v31 (v := x) (p := p') (e := e') (id := 1) (st := [.cells (bsv Y), mV x p' e', mV v p' e', .cells [.int .i64 z0, .int .i64 z1, .int .i64 z2]]) rfl)
    have c33 := up16 (v32 (v := x) (p := p') (e := e') (id := 1) (st := [.cells (bsv Y), mV x p' e', mV v p' e', .cells [.int .i64 z0, .int .i64 z1, .int .i64 z2]]) rfl)
    have n8 : (e' != e') = false := by simp
    have n9 : ((p' : Int) != (p' : Int)) = false := by simp
    have hyl : y.length ≤ 1099511627776 := rowF_len hp hbl m1
    have cc : ∀ g, rdS g y → O28 27 [g, g] [.cells (bsv Y), mV x p' e', mV v p' e', .cells [.int .i64 z0, .int .i64 z1, .int .i64 z2]] (.bool (decide (y = y))) [.cells (bsv Y), mV x p' e', mV v p' e', .cells [.int .i64 z0, .int .i64 z1, .int .i64 z2]] := fun g hg => up16 (w26 hg hg hyl)
    rcases rowV_cases y with ⟨hrv, hg⟩ | ⟨hrv, hg⟩ <;> rw [hrv] at ca cb <;> have cc := cc _ hg
    all_goals
      simp (maxSteps := 2000000) (disch := first | omega | (simp only [List.length_append, List.length_cons, List.length_nil, List.length_map] <;> omega)) only [ev_idxP, flg_bool, swp_seq, swp_reg, swp_cond, seqK_n, condK_t, condK_f, evK_some, appK_eq, srun_nil, srun_cons, sk_mv, sk_give, sk_bin, sk_idxP, sk_load, get_mk, raw_slot, raw_lit, put_some, wb_nil, ev_mv, ev_give, bin_eql, ev_ldP, ldP_some, ro_int, ro_bool, ro_ptr, List.map_cons, List.map_nil, List.getD_cons_zero, List.getD_cons_succ, List.set_cons_zero, List.set_cons_succ, List.getElem?_cons_zero, List.getElem?_cons_succ, Bool.false_eq_true, Option.map_some, ↓reduceIte, Nat.mul_one, Nat.zero_add, beq_self_eq_true, Int.reduceBEq, Int.reduceToNat]
      apply swp_to
      · repeat' first
          | exact swp_ttI
          | refine swp_bothI ?_ ?_
          | refine callK_intro ca ?_
          | refine callK_intro cb ?_
          | refine callK_intro cc ?_
          | exact ⟨rfl, rfl⟩
          | exact rfl
          | simp (maxSteps := 2000000) (disch := first | omega | (simp only [List.length_append, List.length_cons, List.length_nil, List.length_map] <;> omega)) only [flg_bool, exc_int, exc_nilS, exc_ptr, exc_excl, swp_seq, swp_reg, seqK_n, evK_some, appK_eq, appC_eq, srun_nil, srun_cons, stepK_call, sk_give, sk_load, get_mk, raw_slot, put_some, wb_nil, wb_cons, ev_give, ev_ldP, ldP_some, ro_int, ro_bool, got_excl, got_int, got_nilS, got_ptr, pub_excl, pubs, pubsFrom, List.map_cons, List.map_nil, List.getD_cons_zero, List.getD_cons_succ, List.set_cons_zero, List.set_cons_succ, List.getElem?_cons_zero, List.getElem?_cons_succ, true_and, Bool.false_eq_true, Option.map_some, ↓reduceIte, decide_true, Nat.zero_add]
      try simp (maxSteps := 2000000) (disch := first | omega | (simp only [List.length_append, List.length_cons, List.length_nil, List.length_map] <;> omega)) only [mV, grd_t, swp_seq, swp_reg, seqK_n, blkK_n, evK_some, appK_eq, grd_t, srun_nil, srun_cons, stepK_grd, sk_mv, sk_un, sk_nilc, sk_fld, get_mk, raw_slot, put_some, wb_nil, ev_mv, ev_not, ev_nilc, ev_fld, ro_bool, ro_ptr, List.map_cons, List.map_nil, List.getD_cons_zero, List.getD_cons_succ, List.set_cons_zero, List.set_cons_succ, ↓reduceIte, Nat.zero_add, Bool.not_true]
      apply swp_to
      · repeat' first
          | exact swp_ttI
          | refine swp_bothI ?_ ?_
          | refine callK_intro c32 ?_
          | refine callK_intro c33 ?_
          | exact ⟨rfl, rfl⟩
          | exact rfl
          | simp (maxSteps := 2000000) (disch := first | omega | (simp only [List.length_append, List.length_cons, List.length_nil, List.length_map] <;> omega)) only [n8, n9, mV, grd_t, ev_pick, exc_ptr, swp_seq, swp_reg, seqK_n, evK_some, appK_eq, appC_eq, grd_t, srun_nil, srun_cons, stepK_call, stepK_grd, sk_mv, sk_pick, sk_bin, sk_nilc, sk_fld, sk_load, get_mk, raw_slot, raw_lit, put_some, wb_nil, ev_mv, ev_pick, ev_nilc, ev_fld, bin_neq, ev_ldP, ldP_some, ro_int, ro_bool, ro_ptr, got_ptr, pubs, pubsFrom, List.map_cons, List.map_nil, List.getD_cons_zero, List.getD_cons_succ, List.set_cons_zero, List.set_cons_succ, List.getElem?_cons_zero, List.getElem?_cons_succ, true_and, Bool.false_eq_true, Option.map_some, ↓reduceIte, Nat.zero_add]
      simp (maxSteps := 2000000) (disch := first | omega | (simp only [List.length_append, List.length_cons, List.length_nil, List.length_map] <;> omega)) only [lpK_n, flg_int, swp_reg, swp_skip, swp_cond, seqK_n, blkK_n, condK_f, evK_some, appK_eq, srun_nil, srun_cons, sk_mv, sk_give, sk_bin, get_mk, raw_slot, raw_lit, put_some, wb_nil, ev_mv, ev_give, bin_add, ro_int, List.map_cons, List.map_nil, List.getD_cons_zero, List.getD_cons_succ, List.set_cons_zero, List.set_cons_succ, Bool.false_eq_true, ↓reduceIte, wrap_i64]
      refine ⟨_, ?_, ⟨i + 1, p', e', by omega, hp', rfl⟩, ?_⟩
      · refine Forget.cut ?_ (by simp) rfl ?_ ?_
        · repeat first | exact fg_e | refine fg_d ?_ | refine fg_k rfl ?_
        · simp [idOks, idOk, hidv, idOks_f3]
        · simp [obOk, idOks, idOk, hidv, idOks_bsv, hidx]
      · show ((zs.length : Int) - ((i + 1 : Nat) : Int)).toNat < ((zs.length : Int) - (i : Int)).toNat
        omega
  · by_cases hz1 : z1 = 1
    · subst hz1
      obtain ⟨e', i1, i2, i3⟩ := endF_spec2 b p e hp
      obtain ⟨p', hpp⟩ : ∃ p', p' = p := ⟨_, rfl⟩
      have hp' : p' ≤ b.length := by omega
      have i1 : endF ⟨b, p, e⟩ = ⟨b, p', e'⟩ := by rw [hpp]; exact i1
      have ca := up16 (v29 (st := [.cells (bsv Y), mV x p e, mV v p e, .cells [.int .i64 z0, .int .i64 1, .int .i64 z2]]) (st' := [.cells (bsv Y), mV x p' e', mV v p e, .cells [.int .i64 z0, .int .i64 1, .int .i64 z2]]) (id := 1) hxv rfl i1 rfl)
      have cb := q31 (st := [.cells (bsv Y), mV x p' e', mV v p e, .cells [.int .i64 z0, .int .i64 1, .int .i64 z2]]) (st' := [.cells (bsv Y), mV x p' e', mV v p' e', .cells [.int .i64 z0, .int .i64 1, .int .i64 z2]]) (id := 2) hv rfl i1 rfl
      have e9 : (e' == e') = true := by simp
      have c32 := up16 (v31 (v := x) (p := p') (e := e') (id := 1) (st := [.cells (bsv Y), mV x p' e', mV v p' e', .cells [.int .i64 z0, .int .i64 1, .int .i64 z2]]) rfl)
      have c33 := up16 (v32 (v := x) (p := p') (e := e') (id := 1) (st := [.cells (bsv Y), mV x p' e', mV v p' e', .cells [.int .i64 z0, .int .i64 1, .int .i64 z2]]) rfl)
      have n8 : (e' != e') = false := by simp
      have n9 : ((p' : Int) != (p' : Int)) = false := by simp
      simp (maxSteps := 2000000) (disch := first | omega | (simp only [List.length_append, List.length_cons, List.length_nil, List.length_map] <;> omega)) only [ev_idxP, flg_bool, exc_ptr, swp_seq, swp_reg, swp_cond, seqK_n, condK_t, condK_f, evK_some, appK_eq, srun_nil, srun_cons, stepK_call, sk_mv, sk_give, sk_bin, sk_idxP, sk_load, get_mk, raw_slot, raw_lit, put_some, wb_nil, ev_mv, ev_give, bin_eql, ev_ldP, ldP_some, ro_int, ro_bool, ro_ptr, got_ptr, pubs, pubsFrom, List.map_cons, List.map_nil, List.getD_cons_zero, List.getD_cons_succ, List.set_cons_zero, List.set_cons_succ, List.getElem?_cons_zero, List.getElem?_cons_succ, Bool.false_eq_true, Option.map_some, ↓reduceIte, Nat.mul_one, Nat.zero_add, beq_self_eq_true, Int.reduceBEq, Int.reduceToNat]
      refine callK_intro ca ?_
      simp (maxSteps := 2000000) (disch := first | omega | (simp only [List.length_append, List.length_cons, List.length_nil, List.length_map] <;> omega)) only [exc_ptr, evK_some, appK_eq, appC_eq, srun_cons, stepK_call, sk_mv, get_mk, raw_slot, put_some, wb_nil, ev_mv, ro_ptr, got_ptr, pubs, pubsFrom, List.map_cons, List.map_nil, List.getD_cons_zero, List.getD_cons_succ, List.set_cons_zero, List.set_cons_succ, Bool.false_eq_true, ↓reduceIte]
      refine callK_intro cb ?_
      simp (maxSteps := 2000000) (disch := first | omega | (simp only [List.length_append, List.length_cons, List.length_nil, List.length_map] <;> omega)) only [e9, mV, grd_t, flg_bool, swp_seq, swp_reg, seqK_n, blkK_n, evK_some, appK_eq, appC_eq, grd_t, srun_nil, srun_cons, stepK_grd, sk_mv, sk_give, sk_bin, sk_un, sk_nilc, sk_fld, get_mk, raw_slot, put_some, wb_nil, ev_mv, ev_give, ev_not, ev_nilc, ev_fld, bin_eql, ro_bool, ro_ptr, List.map_cons, List.map_nil, List.getD_cons_zero, List.getD_cons_succ, List.set_cons_zero, List.set_cons_succ, Bool.false_eq_true, ↓reduceIte, Nat.zero_add, Bool.not_true]
      apply swp_to
      · repeat' first
          | exact swp_ttI
          | refine swp_bothI ?_ ?_
          | refine callK_intro c32 ?_
          | refine callK_intro c33 ?_
          | exact ⟨rfl, rfl⟩
          | exact rfl
          | simp (maxSteps := 2000000) (disch := first | omega | (simp only [List.length_append, List.length_cons, List.length_nil, List.length_map] <;> omega)) only [n8, n9, mV, grd_t, ev_pick, exc_ptr, swp_seq, swp_reg, seqK_n, evK_some, appK_eq, appC_eq, grd_t, srun_nil, srun_cons, stepK_call, stepK_grd, sk_mv, sk_pick, sk_bin, sk_nilc, sk_fld, sk_load, get_mk, raw_slot, raw_lit, put_some, wb_nil, ev_mv, ev_pick, ev_nilc, ev_fld, bin_neq, ev_ldP, ldP_some, ro_int, ro_bool, ro_ptr, got_ptr, pubs, pubsFrom, List.map_cons, List.map_nil, List.getD_cons_zero, List.getD_cons_succ, List.set_cons_zero, List.set_cons_succ, List.getElem?_cons_zero, List.getElem?_cons_succ, true_and, Bool.false_eq_true, Option.map_some, ↓reduceIte, Nat.zero_add]
      simp (maxSteps := 2000000) (disch := first | omega | (simp only [List.length_append, List.length_cons, List.length_nil, List.length_map] <;> omega)) only [lpK_n, flg_int, swp_reg, swp_skip, swp_cond, seqK_n, blkK_n, condK_f, evK_some, appK_eq, srun_nil, srun_cons, sk_mv, sk_give, sk_bin, get_mk, raw_slot, raw_lit, put_some, wb_nil, ev_mv, ev_give, bin_add, ro_int, List.map_cons, List.map_nil, List.getD_cons_zero, List.getD_cons_succ, List.set_cons_zero, List.set_cons_succ, Bool.false_eq_true, ↓reduceIte, wrap_i64]
      refine ⟨_, ?_, ⟨i + 1, p', e', by omega, hp', rfl⟩, ?_⟩
      · refine Forget.cut ?_ (by simp) rfl ?_ ?_
        · repeat first | exact fg_e | refine fg_d ?_ | refine fg_k rfl ?_
        · simp [idOks, idOk, hidv, idOks_f3]
        · simp [obOk, idOks, idOk, hidv, idOks_bsv, hidx]
      · show ((zs.length : Int) - ((i + 1 : Nat) : Int)).toNat < ((zs.length : Int) - (i : Int)).toNat
        omega
    · have hb1 : (z1 == 1) = false := by simpa using hz1
      obtain ⟨p', hpp⟩ : ∃ p', p' = p := ⟨_, rfl⟩
      obtain ⟨e', hee⟩ : ∃ e', e' = e := ⟨_, rfl⟩
      have hp' : p' ≤ b.length := by omega
      subst hpp hee
      have e9 : True := trivial
      have c32 := up16 (v31 (v := x) (p := p') (e := e') (id := 1) (st := [.cells (bsv Y), mV x p' e', mV v p' e', .cells [.int .i64 z0, .int .i64 z1, .int .i64 z2]]) rfl)
      have c33 := up16 (v32 (v := x) (p := p') (e := e') (id := 1) (st := [.cells (bsv Y), mV x p' e', mV v p' e', .cells [.int .i64 z0, .int .i64 z1, .int .i64 z2]]) rfl)
      have n8 : (e' != e') = false := by simp
      have n9 : ((p' : Int) != (p' : Int)) = false := by simp
      simp (maxSteps := 2000000) (disch := first | omega | (simp only [List.length_append, List.length_cons, List.length_nil, List.length_map] <;> omega)) only [hb1, ev_idxP, grd_t, flg_bool, swp_seq, swp_reg, swp_skip, swp_cond, seqK_n, blkK_n, condK_t, condK_f, evK_some, appK_eq, grd_t, srun_nil, srun_cons, stepK_grd, sk_mv, sk_give, sk_bin, sk_un, sk_nilc, sk_fld, sk_idxP, sk_load, get_mk, raw_slot, raw_lit, put_some, wb_nil, ev_mv, ev_give, ev_not, ev_nilc, ev_fld, bin_eql, ev_ldP, ldP_some, ro_int, ro_bool, ro_ptr, List.map_cons, List.map_nil, List.getD_cons_zero, List.getD_cons_succ, List.set_cons_zero, List.set_cons_succ, List.getElem?_cons_zero, List.getElem?_cons_succ, Bool.false_eq_true, Option.map_some, ↓reduceIte, Nat.mul_one, Nat.zero_add, Bool.not_true, beq_self_eq_true, Int.reduceBEq, Int.reduceToNat]
      try simp (maxSteps := 2000000) (disch := first | omega | (simp only [List.length_append, List.length_cons, List.length_nil, List.length_map] <;> omega)) only [mV]
      apply swp_to
      · repeat' first
          | exact swp_ttI
          | refine swp_bothI ?_ ?_
          | refine callK_intro c32 ?_
          | refine callK_intro c33 ?_
          | exact ⟨rfl, rfl⟩
          | exact rfl
          | simp (maxSteps := 2000000) (disch := first | omega | (simp only [List.length_append, List.length_cons, List.length_nil, List.length_map] <;> omega)) only [n8, n9, mV, grd_t, ev_pick, exc_ptr, swp_seq, swp_reg, seqK_n, evK_some, appK_eq, appC_eq, grd_t, srun_nil, srun_cons, stepK_call, stepK_grd, sk_mv, sk_pick, sk_bin, sk_nilc, sk_fld, sk_load, get_mk, raw_slot, raw_lit, put_some, wb_nil, ev_mv, ev_pick, ev_nilc, ev_fld, bin_neq, ev_ldP, ldP_some, ro_int, ro_bool, ro_ptr, got_ptr, pubs, pubsFrom, List.map_cons, List.map_nil, List.getD_cons_zero, List.getD_cons_succ, List.set_cons_zero, List.set_cons_succ, List.getElem?_cons_zero, List.getElem?_cons_succ, true_and, Bool.false_eq_true, Option.map_some, ↓reduceIte, Nat.zero_add]
      simp (maxSteps := 2000000) (disch := first | omega | (simp only [List.length_append, List.length_cons, List.length_nil, List.length_map] <;> omega)) only [lpK_n, flg_int, swp_reg, swp_skip, swp_cond, seqK_n, blkK_n, condK_f, evK_some, appK_eq, srun_nil, srun_cons, sk_mv, sk_give, sk_bin, get_mk, raw_slot, raw_lit, put_some, wb_nil, ev_mv, ev_give, bin_add, ro_int, List.map_cons, List.map_nil, List.getD_cons_zero, List.getD_cons_succ, List.set_cons_zero, List.set_cons_succ, Bool.false_eq_true, ↓reduceIte, wrap_i64]
      refine ⟨_, ?_, ⟨i + 1, p', e', by omega, hp', rfl⟩, ?_⟩
      · refine Forget.cut ?_ (by simp) rfl ?_ ?_
        · repeat first | exact fg_e | refine fg_d ?_ | refine fg_k rfl ?_
        · simp [idOks, idOk, hidv, idOks_f3]
        · simp [obOk, idOks, idOk, hidv, idOks_bsv, hidx]
      · show ((zs.length : Int) - ((i + 1 : Nat) : Int)).toNat < ((zs.length : Int) - (i : Int)).toNat
        omega
  · have b0 : (K == 0) = false := by simpa using k0
    have b1 : (K == 1) = false := by simpa using k1
    have b2 : (K == 2) = false := by simpa using k2
    have b3 : (K == 3) = false := by simpa using k3
    obtain ⟨p', hpp⟩ : ∃ p', p' = p := ⟨_, rfl⟩
    obtain ⟨e', hee⟩ : ∃ e', e' = e := ⟨_, rfl⟩
    have hp' : p' ≤ b.length := by omega
    subst hpp hee
    have e9 : True := trivial
    have c32 := up16 (v31 (v := x) (p := p') (e := e') (id := 1) (st := [.cells (bsv Y), mV x p' e', mV v p' e', .cells [.int .i64 z0, .int .i64 z1, .int .i64 z2]]) rfl)
    have c33 := up16 (v32 (v := x) (p := p') (e := e') (id := 1) (st := [.cells (bsv Y), mV x p' e', mV v p' e', .cells [.int .i64 z0, .int .i64 z1, .int .i64 z2]]) rfl)
    have n8 : (e' != e') = false := by simp
    have n9 : ((p' : Int) != (p' : Int)) = false := by simp
    simp (maxSteps := 2000000) (disch := first | omega | (simp only [List.length_append, List.length_cons, List.length_nil, List.length_map] <;> omega)) only [b0, b1, b2, b3, grd_t, flg_bool, swp_seq, swp_reg, swp_skip, swp_cond, seqK_n, blkK_n, condK_f, evK_some, appK_eq, grd_t, srun_nil, srun_cons, stepK_grd, sk_mv, sk_give, sk_bin, sk_un, sk_nilc, sk_fld, get_mk, raw_slot, raw_lit, put_some, wb_nil, ev_mv, ev_give, ev_not, ev_nilc, ev_fld, bin_eql, ro_bool, ro_ptr, List.map_cons, List.map_nil, List.getD_cons_zero, List.getD_cons_succ, List.set_cons_zero, List.set_cons_succ, Bool.false_eq_true, ↓reduceIte, Nat.zero_add, Bool.not_true]
    try simp (maxSteps := 2000000) (disch := first | omega | (simp only [List.length_append, List.length_cons, List.length_nil, List.length_map] <;> omega)) only [mV]
    apply swp_to
    · repeat' first
        | exact swp_ttI
        | refine swp_bothI ?_ ?_
        | refine callK_intro c32 ?_
        | refine callK_intro c33 ?_
        | exact ⟨rfl, rfl⟩
        | exact rfl
        | simp (maxSteps := 2000000) (disch := first | omega | (simp only [List.length_append, List.length_cons, List.length_nil, List.length_map] <;> omega)) only [n8, n9, mV, grd_t, ev_pick, exc_ptr, swp_seq, swp_reg, seqK_n, evK_some, appK_eq, appC_eq, grd_t, srun_nil, srun_cons, stepK_call, stepK_grd, sk_mv, sk_pick, sk_bin, sk_nilc, sk_fld, sk_load, get_mk, raw_slot, raw_lit, put_some, wb_nil, ev_mv, ev_pick, ev_nilc, ev_fld, bin_neq, ev_ldP, ldP_some, ro_int, ro_bool, ro_ptr, got_ptr, pubs, pubsFrom, List.map_cons, List.map_nil, List.getD_cons_zero, List.getD_cons_succ, List.set_cons_zero, List.set_cons_succ, List.getElem?_cons_zero, List.getElem?_cons_succ, true_and, Bool.false_eq_true, Option.map_some, ↓reduceIte, Nat.zero_add]
    simp (maxSteps := 2000000) (disch := first | omega | (simp only [List.length_append, List.length_cons, List.length_nil, List.length_map] <;> omega)) only [lpK_n, flg_int, swp_reg, swp_skip, swp_cond, seqK_n, blkK_n, condK_f, evK_some, appK_eq, srun_nil, srun_cons, sk_mv, sk_give, sk_bin, get_mk, raw_slot, raw_lit, put_some, wb_nil, ev_mv, ev_give, bin_add, ro_int, List.map_cons, List.map_nil, List.getD_cons_zero, List.getD_cons_succ, List.set_cons_zero, List.set_cons_succ, Bool.false_eq_true, ↓reduceIte, wrap_i64]
    refine ⟨_, ?_, ⟨i + 1, p', e', by omega, hp', rfl⟩, ?_⟩
    · refine Forget.cut ?_ (by simp) rfl ?_ ?_
      · repeat first | exact fg_e | refine fg_d ?_ | refine fg_k rfl ?_
      · simp [idOks, idOk, hidv, idOks_f3]
      · simp [obOk, idOks, idOk, hidv, idOks_bsv, hidx]
    · show ((zs.length : Int) - ((i + 1 : Nat) : Int)).toNat < ((zs.length : Int) - (i : Int)).toNat
      omega
end Go.Sh.F
