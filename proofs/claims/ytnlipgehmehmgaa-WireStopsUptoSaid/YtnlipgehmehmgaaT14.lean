/-
  WireOne, in the shadow machine.
-/
import Derived.Test.YtnlipgehmehmgaaT13
set_option linter.unusedSimpArgs false
set_option linter.unusedVariables false
namespace Go.Sh.F
def rdL {α : Type} (f : α → SV) (v : SV) (l : List α) : Prop := (v = .nilS ∧ l = []) ∨ v = .sl (l.map f) l.length .ro
theorem rdL_facts {α : Type} {f : α → SV} {v : SV} {l : List α} (h : rdL f v l) : ro v = v ∧ got v = v ∧ exc v = false ∧ flg v = false ∧ ∀ st, ev st .lenL [v] = some (.int .i64 l.length, [], st) := by
  rcases h with ⟨rfl, rfl⟩ | rfl
  · exact ⟨rfl, rfl, rfl, rfl, fun _ => ev_lenN⟩
  · exact ⟨rfl, rfl, rfl, rfl, fun _ => ev_lenL⟩
theorem rdL_at {α : Type} {f : α → SV} {l : List α} {i : Nat} (h : i < l.length) : (l.map f)[i]? = some (f l[i]) := by simp [h]
def mV (v : SV) (p e : Int) : Ob := .cells [v, .int .i64 p, .int .i64 e]
section
variable {v : SV} {l : List UInt8} {p p' : Nat} {e e' most each n : Int} {id : Nat} {st st' : List Ob}
theorem v22 (hv : rdv v l) (hl : l.length ≤ 1099511627776) (hp : p ≤ l.length) (h : st[id]? = some (mV v p e)) (hn : numF ⟨l, p, e⟩ most = (n, ⟨l, p', e'⟩)) (hs : st' = st.set id (mV v p' e')) : O16 22 [.ptr id 0, .int .i64 most] st (.int .i64 n) st' :=
  .inl (o22 ⟨⟨l, p, e⟩, _, id, most, hv, hl, hp, h, rfl, by rw [hn], by rw [hn, hs]; rfl⟩)
theorem v24 {x : List UInt8} (hv : rdv v l) (hl : l.length ≤ 1099511627776) (hp : p ≤ l.length) (h : st[id]? = some (mV v p e)) (hn : textF ⟨l, p, e⟩ most = (x, ⟨l, p', e'⟩)) (hs : st' = st.set id (mV v p' e')) : O16 24 [.ptr id 0, .int .i64 most] st (.str x) st' :=
  .inl (o24 ⟨⟨l, p, e⟩, _, id, most, hv, hl, hp, h, rfl, by rw [hn], by rw [hn, hs]; rfl⟩)
theorem v27 {x : List (List UInt8)} (hv : rdv v l) (hl : l.length ≤ 1099511627776) (hp : p ≤ l.length) (h : st[id]? = some (mV v p e)) (hn : rowF ⟨l, p, e⟩ most each = (x, ⟨l, p', e'⟩)) (hs : st' = st.set id (mV v p' e')) : O16 27 [.ptr id 0, .int .i64 most, .int .i64 each] st (rowV x) st' :=
  .inl (o27 ⟨⟨l, p, e⟩, _, id, most, each, hv, hl, hp, h, rfl, by rw [hn], by rw [hn, hs]; rfl⟩)
theorem v29 (hv : rdv v l) (h : st[id]? = some (mV v p e)) (hn : endF ⟨l, p, e⟩ = ⟨l, p', e'⟩) (hs : st' = st.set id (mV v p' e')) : O16 29 [.ptr id 0] st (.int .i64 e') st' :=
  .inl (o29 ⟨⟨l, p, e⟩, _, id, hv, h, rfl, by rw [hn], by rw [hn, hs]; rfl⟩)
theorem v31 (h : st[id]? = some (mV v p e)) : O16 31 [.ptr id 0] st (.int .i64 e) st := .inl (o31 ⟨_, _, _, _, h, rfl, rfl, rfl⟩)
theorem v32 (h : st[id]? = some (mV v p e)) : O16 32 [.ptr id 0] st (.int .i64 p) st := .inl (o32 ⟨_, _, _, _, h, rfl, rfl, rfl⟩)
theorem v21 (hv : rdv v l) (hl : l.length ≤ 1099511627776) : O16 21 [v] st (.ptr st.length 0) (st ++ [mV v 0 0]) := by
  refine .inl (o21 ⟨v, l, rdv_isBs hv, hl, rfl, rfl, ?_⟩)
  rcases hv with ⟨rfl, _⟩ | rfl <;> rfl
end
/-- Where the readers come to. -/
theorem numF_spec2 (l : List UInt8) (p : Nat) (e most : Int) (hp : p ≤ l.length) : ∃ (k p' : Nat) (e' : Int), numF ⟨l, p, e⟩ most = ((k : Int), ⟨l, p', e'⟩) ∧ p' ≤ l.length ∧ (e ≠ 0 → e' = e ∧ p' = p) ∧ (e = 0 → e' = 0 → p' = p + 4 ∧ k ≤ 4294967295 ∧ (k : Int) ≤ most ∧ l.take p' = l.take p ++ be4 k) := by
  obtain ⟨k, p', e', h1, _, h2⟩ := numF_spec ⟨l, p, e⟩ most hp
  refine ⟨k, p', e', h1, h2, fun he => ?_, fun he he' => ?_⟩
  · rw [numF_err he] at h1
    simp only [Prod.mk.injEq, RdS.mk.injEq] at h1
    exact ⟨h1.2.2.2.symm, h1.2.2.1.symm⟩
  · subst he he'
    obtain ⟨k', i1, i2, i3, i4, i5⟩ := numR (most := most) hp (by rw [h1])
    rw [i1] at h1
    simp only [Prod.mk.injEq, RdS.mk.injEq, true_and, and_true, Int.natCast_inj] at h1
    obtain ⟨rfl, rfl⟩ := h1
    exact ⟨rfl, i2, i3, i5⟩
theorem textF_spec2 (l : List UInt8) (p : Nat) (e most : Int) (hp : p ≤ l.length) : ∃ (x : List UInt8) (p' : Nat) (e' : Int), textF ⟨l, p, e⟩ most = (x, ⟨l, p', e'⟩) ∧ p' ≤ l.length ∧ (e ≠ 0 → e' = e ∧ p' = p) ∧ (e = 0 → e' = 0 → x.length ≤ 16384 ∧ p' = p + (strB x).length ∧ l.take p' = l.take p ++ strB x) := by
  obtain ⟨x, p', e', h1, h2, _⟩ := textF_spec ⟨l, p, e⟩ most hp
  refine ⟨x, p', e', h1, h2, fun he => ?_, fun he he' => ?_⟩
  · rw [textF_err he] at h1
    simp only [Prod.mk.injEq, RdS.mk.injEq] at h1
    exact ⟨h1.2.2.2.symm, h1.2.2.1.symm⟩
  · subst he he'
    obtain ⟨k', i1, i2, i3, i4⟩ := textR (most := most) hp (by rw [h1])
    rw [i1] at h1
    simp only [Prod.mk.injEq, RdS.mk.injEq, true_and, and_true] at h1
    obtain ⟨rfl, rfl⟩ := h1
    exact ⟨i2, rfl, i4⟩
theorem textsF_l (each : Int) : ∀ (n : Nat) (s : RdS), s.p ≤ s.l.length → (textsF each n s).2.l = s.l ∧ (textsF each n s).2.p ≤ s.l.length ∧ (textsF each n s).1.length ≤ n
  | 0, s, h => ⟨rfl, h, by simp [textsF]⟩
  | n + 1, s, h => by
    obtain ⟨x, p, e, h1, h2, _⟩ := textF_spec s each h
    unfold textsF
    rw [h1]
    simp only
    split
    · exact ⟨rfl, h2, by simp⟩
    · have := textsF_l each n ⟨s.l, p, e⟩ h2
      exact ⟨this.1, this.2.1, by simp only [List.length_cons]; omega⟩
theorem rowF_spec2 (l : List UInt8) (p : Nat) (e most each : Int) (hp : p ≤ l.length) : ∃ (x : List (List UInt8)) (p' : Nat) (e' : Int), rowF ⟨l, p, e⟩ most each = (x, ⟨l, p', e'⟩) ∧ p' ≤ l.length ∧ (e ≠ 0 → e' = e ∧ p' = p) ∧ (e = 0 → e' = 0 → x.length ≤ 256 ∧ p' = p + (rowB x).length ∧ l.take p' = l.take p ++ rowB x) := by
  obtain ⟨x, p', e', h1, h2⟩ : ∃ (x : List (List UInt8)) (p' : Nat) (e' : Int), rowF ⟨l, p, e⟩ most each = (x, ⟨l, p', e'⟩) ∧ p' ≤ l.length := by
    obtain ⟨n, p1, e1, hn, _, hp1⟩ := numF_spec ⟨l, p, e⟩ (minI most 256) hp
    unfold rowF
    rw [hn]
    simp only
    split
    · exact ⟨_, _, _, rfl, hp⟩
    · have := textsF_l each (n : Int).toNat ⟨l, p1, e1⟩ hp1
      generalize textsF each (n : Int).toNat ⟨l, p1, e1⟩ = T at *
      obtain ⟨x, l', p', e'⟩ := T
      simp only at this
      obtain ⟨rfl, h, _⟩ := this
      split
      · exact ⟨_, _, _, rfl, hp⟩
      · exact ⟨_, _, _, rfl, h⟩
  refine ⟨x, p', e', h1, h2, fun he => ?_, fun he he' => ?_⟩
  · rw [rowF_err he] at h1
    simp only [Prod.mk.injEq, RdS.mk.injEq] at h1
    exact ⟨h1.2.2.2.symm, h1.2.2.1.symm⟩
  · subst he he'
    obtain ⟨k', i1, i2, i3, i4, _⟩ := rowR (most := most) (each := each) hp (by rw [h1])
    rw [i1] at h1
    simp only [Prod.mk.injEq, RdS.mk.injEq, true_and, and_true] at h1
    obtain ⟨rfl, rfl⟩ := h1
    exact ⟨i2, rfl, i4⟩
theorem endF_spec2 (l : List UInt8) (p : Nat) (e : Int) (hp : p ≤ l.length) : ∃ e' : Int, endF ⟨l, p, e⟩ = ⟨l, p, e'⟩ ∧ (e ≠ 0 → e' = e) ∧ (e' = 0 → e = 0 ∧ p = l.length) := by
  by_cases he : e = 0
  · subst he
    by_cases h : p < l.length
    · exact ⟨4, by simp [endF, h], fun h => absurd rfl h, fun h => absurd h (by decide)⟩
    · exact ⟨0, by simp [endF, h], fun _ => rfl, fun _ => ⟨rfl, by omega⟩⟩
  · exact ⟨e, endF_err he, fun _ => rfl, fun h => absurd h he⟩
/-- What was put together so far, and how it goes on. -/
def outV (ov : SV) (O : List UInt8) : Prop := (ov = .nilS ∧ O = []) ∨ ov = .sl (bsv O) O.length (.excl 1)
theorem w13r {gv : SV} {A : List UInt8} {st : List Ob} (hv : rdv gv A) (n : Int) (hl : A.length ≤ 1099511627776) : O16 13 [gv, .int .i64 n] st (.sl (bsv (A ++ be4 (clampN n))) (A.length + 4) (.excl 1)) st := p13 ⟨rfl, gv, A, n, rdv_isBs hv, hl, rfl, rfl⟩
theorem w14r {gv : SV} {A : List UInt8} {st : List Ob} (hv : rdv gv A) (s : List UInt8) (hl : A.length ≤ 549755813888) : O16 14 [gv, .str s] st (.sl (bsv (A ++ strB s)) (A.length + (strB s).length) (.excl 1)) st := .inl (o14 ⟨rfl, gv, A, s, rdv_isBs hv, hl, rfl, rfl⟩)
theorem w15r {gv u : SV} {A : List UInt8} {rows : List (List UInt8)} {st : List Ob} (hv : rdv gv A) (hu : rdS u rows) (hl : A.length ≤ 274877906944) : O16 15 [gv, u] st (.sl (bsv (A ++ rowB rows)) (A ++ rowB rows).length (.excl 1)) st := .inl (o15 ⟨rfl, gv, u, A, rows, hv, hu, hl, rfl, rfl⟩)
theorem outV_mk {k : Nat} {X : List UInt8} (h : k = X.length) : outV (.sl (bsv X) k (.excl 1)) X := .inr (by rw [h])
theorem be4_len (k : Nat) : (be4 k).length = 4 := rfl
theorem rowV_cases (rows : List (List UInt8)) : (rowV rows = .nilS ∧ rdS .nilS rows) ∨ (rowV rows = .sl (ssv rows) rows.length (.excl 1) ∧ rdS (.sl (ssv rows) rows.length .ro) rows) := by
  by_cases h : rows = []
  · exact .inl ⟨by rw [rowV, if_pos h], .inl ⟨rfl, h⟩⟩
  · exact .inr ⟨by rw [rowV, if_neg h], .inr rfl⟩
set_option maxHeartbeats 4000000 in
theorem f6 (v c : SV) (b : List UInt8) (zs : List Int) (hv : rdv v b) (hc : rdL (.int .i64) c zs) (hbl : b.length ≤ 1099511627776) (hzl : zs.length ≤ 1099511627776) :
    swpF O16 sf6 [v, c] [] (fun r _ => r = .bool true) := by
  obtain ⟨hro, hgot, hexc, hflg, hla⟩ := rdL_facts (f := fun x : UInt8 => .int .u8 x.toNat) hv
  obtain ⟨hro', hgot', hexc', hflg', hla'⟩ := rdL_facts hc
  have c21 := v21 (st := []) hv hbl
  simp (maxSteps := 2000000) (disch := first | omega | (simp only [List.length_append, List.length_cons, List.length_nil, List.length_map] <;> omega)) only [sf6, flg_bool, swp_seq, swp_reg, seqK_n, evK_some, appK_eq, srun_nil, srun_cons, stepK_call, swpF_eq, sk_give, raw_lit, put_some, wb_nil, ev_give, ro_bool, pubs, pubsFrom, List.map_cons, List.map_nil, List.set_cons_zero, List.set_cons_succ, List.length_cons, List.length_nil, List.replicate_succ, List.replicate_zero, List.cons_append, List.nil_append, Nat.reduceAdd, Nat.reduceSub, Bool.false_eq_true, ↓reduceIte, Nat.zero_add]
  refine callK_intro o11 ?_
  simp (maxSteps := 2000000) (disch := first | omega | (simp only [List.length_append, List.length_cons, List.length_nil, List.length_map] <;> omega)) only [hro, hgot, hexc, flg_bool, swp_seq, swp_reg, seqK_n, evK_some, appK_eq, appC_eq, srun_nil, srun_cons, stepK_call, sk_mv, sk_give, get_mk, raw_slot, put_some, wb_nil, ev_mv, ev_give, ro_bool, pubs, pubsFrom, List.map_cons, List.map_nil, List.getD_cons_zero, List.getD_cons_succ, List.set_cons_zero, List.set_cons_succ, Bool.false_eq_true, ↓reduceIte]
  refine callK_intro c21 ?_
  by_cases h1 : b.length ≤ 5000
  case neg =>
    have d1 : decide ((5000 : Int) < (b.length : Int)) = true := by simp; omega
    simp (maxSteps := 2000000) (disch := first | omega | (simp only [List.length_append, List.length_cons, List.length_nil, List.length_map] <;> omega)) only [d1, hgot, hexc, hla, grd_t, ev_pick, flg_bool, flg_ptr, exc_ptr, swp_seq, swp_reg, swp_ret, swp_cond, seqK_n, seqK_r, condK_t, evK_some, appK_eq, appC_eq, grd_t, srun_nil, srun_cons, stepK_grd, fin_ret, sk_mv, sk_take, sk_give, sk_pick, sk_bin, sk_eqN, sk_lenL, get_mk, raw_slot, raw_lit, put_some, wb_nil, ev_mv, ev_take, ev_give, ev_pick, ev_eqNp2, bin_gtr, ro_bool, ro_ptr, got_ptr, List.map_cons, List.map_nil, List.getD_cons_zero, List.getD_cons_succ, List.set_cons_zero, List.set_cons_succ, List.length_nil, List.nil_append, and_true, Bool.false_eq_true, ↓reduceIte, reduceCtorEq, gt_iff_lt]
    exact ⟨[], .inr ⟨by simp, by simp, rfl, rfl⟩⟩
  have d1 : decide ((5000 : Int) < (b.length : Int)) = false := by simp; omega
  by_cases h2 : zs.length ≤ 100
  case neg =>
    have d2 : decide ((100 : Int) < (zs.length : Int)) = true := by simp; omega
    simp (maxSteps := 2000000) (disch := first | omega | (simp only [List.length_append, List.length_cons, List.length_nil, List.length_map] <;> omega)) only [d1, d2, hgot, hexc, hla, hgot', hexc', hla', grd_t, ev_pick, flg_bool, flg_ptr, exc_ptr, swp_seq, swp_reg, swp_ret, swp_cond, seqK_n, seqK_r, condK_t, evK_some, appK_eq, appC_eq, grd_t, srun_nil, srun_cons, stepK_grd, fin_ret, sk_mv, sk_take, sk_give, sk_pick, sk_bin, sk_eqN, sk_lenL, get_mk, raw_slot, raw_lit, put_some, wb_nil, ev_mv, ev_take, ev_give, ev_pick, ev_eqNp2, bin_gtr, ro_bool, ro_ptr, got_ptr, List.map_cons, List.map_nil, List.getD_cons_zero, List.getD_cons_succ, List.set_cons_zero, List.set_cons_succ, List.length_nil, List.nil_append, and_true, Bool.false_eq_true, ↓reduceIte, gt_iff_lt]
    exact ⟨[], .inr ⟨by simp, by simp, rfl, rfl⟩⟩
  have d2 : decide ((100 : Int) < (zs.length : Int)) = false := by simp; omega
  simp (maxSteps := 2000000) (disch := first | omega | (simp only [List.length_append, List.length_cons, List.length_nil, List.length_map] <;> omega)) only [d1, d2, hgot, hexc, hla, hgot', hexc', hla', grd_t, ev_pick, flg_ptr, exc_int, exc_nilS, swp_seq, swp_reg, swp_skip, swp_block, swp_cond, seqK_n, condK_f, evK_some, appK_eq, appC_eq, grd_t, srun_nil, srun_cons, stepK_grd, sk_mv, sk_take, sk_give, sk_pick, sk_bin, sk_eqN, sk_lenL, get_mk, raw_slot, raw_lit, put_some, wb_nil, ev_mv, ev_take, ev_give, ev_pick, ev_eqNp2, bin_gtr, ro_bool, ro_ptr, got_int, got_nilS, List.map_cons, List.map_nil, List.getD_cons_zero, List.getD_cons_succ, List.set_cons_zero, List.set_cons_succ, List.length_nil, List.nil_append, Bool.false_eq_true, ↓reduceIte, gt_iff_lt]
  refine swp_lp (fun S => ∃ (i p : Nat) (e : Int) (O : List UInt8) (ov : SV), i ≤ zs.length ∧ p ≤ b.length ∧ outV ov O ∧ O.length ≤ i * 5000000 ∧ (e = 0 → O = b.take p) ∧
      S = ⟨[v, c, .undef, .undef, .bool false, .bool true, .ptr 0 0, ov, .int .i64 i] ++ List.replicate 67 .undef, [mV v p e]⟩)
      (fun S => match S.get 8 with | .int _ k => ((zs.length : Int) - k).toNat | _ => 0)
      ⟨[v, c, .undef, .undef, .bool false, .bool true, .ptr 0 0, .nilS, .int .i64 0] ++ List.replicate 67 .undef, [mV v 0 0]⟩ ?_ ⟨0, 0, 0, [], .nilS, by omega, by omega, .inl ⟨rfl, rfl⟩, by simp, by simp, rfl⟩ ?_
  · refine Forget.of ?_
    repeat first | exact fg_e | refine fg_d ?_ | refine fg_k rfl ?_
  rintro S ⟨i, p, e, O, ov, hi, hp, hov, hO, hOe, rfl⟩
  by_cases him : i = zs.length
  · subst him
    have hd : decide ((zs.length : Int) < (zs.length : Int)) = false := by simp
    obtain ⟨e', i1, i2, i3⟩ := endF_spec2 b p e hp
    have c29 := v29 (st := [mV v p e]) (st' := [mV v p e']) (id := 0) hv rfl i1 rfl
    have c31 := v31 (v := v) (p := p) (e := e') (id := 0) (st := [mV v p e']) rfl
    simp (maxSteps := 2000000) (disch := first | omega | (simp only [List.length_append, List.length_cons, List.length_nil, List.length_map] <;> omega)) only [hd, hro', hla', lpK_e, exc_ptr, swp_seq, swp_reg, swp_exit, swp_cond, seqK_n, seqK_e, blkK_e, condK_f, evK_some, appK_eq, srun_nil, srun_cons, stepK_call, sk_mv, sk_bin, sk_lenL, get_mk, raw_slot, put_some, wb_nil, ev_mv, bin_lss, ro_int, ro_ptr, got_ptr, pubs, pubsFrom, List.map_cons, List.map_nil, List.getD_cons_zero, List.getD_cons_succ, List.set_cons_zero, List.set_cons_succ, List.length_cons, List.length_nil, List.replicate_succ, List.replicate_zero, List.cons_append, List.nil_append, Bool.false_eq_true, ↓reduceIte, Nat.zero_add]
    refine callK_intro c29 ?_
    by_cases he : e' = 0
    case neg =>
      have hb : (e' != 0) = true := by simpa using he
      simp (maxSteps := 2000000) (disch := first | omega | (simp only [List.length_append, List.length_cons, List.length_nil, List.length_map] <;> omega)) only [hb, grd_t, exc_ptr, swp_seq, swp_reg, swp_cond, seqK_n, condK_t, evK_some, appK_eq, appC_eq, grd_t, srun_nil, srun_cons, stepK_call, stepK_grd, sk_mv, sk_take, sk_bin, get_mk, raw_slot, raw_lit, put_some, wb_nil, ev_mv, ev_take, bin_neq, ro_bool, got_ptr, pubs, pubsFrom, List.map_cons, List.map_nil, List.getD_cons_zero, List.getD_cons_succ, List.set_cons_zero, List.set_cons_succ, Bool.false_eq_true, ↓reduceIte]
      refine callK_intro c31 ?_
      simp (maxSteps := 2000000) (disch := first | omega | (simp only [List.length_append, List.length_cons, List.length_nil, List.length_map] <;> omega)) only [hb, grd_t, ev_pick, flg_bool, swp_ret, seqK_n, seqK_r, evK_some, appK_eq, appC_eq, grd_t, srun_nil, srun_cons, stepK_grd, fin_ret, sk_give, sk_pick, sk_bin, get_mk, raw_slot, raw_lit, put_some, wb_nil, ev_give, ev_pick, bin_neq, ro_bool, List.map_cons, List.map_nil, List.getD_cons_zero, List.getD_cons_succ, List.set_cons_zero, List.set_cons_succ, List.length_nil, and_true, Bool.false_eq_true, ↓reduceIte]
      exact ⟨[], .inr ⟨by simp, by simp, rfl, rfl⟩⟩
    have hb : (e' != 0) = false := by simpa using he
    obtain ⟨he0, hpl⟩ := i3 he
    have hOb := hOe he0
    rw [hpl, List.take_length] at hOb
    subst hOb
    rcases hov with ⟨rfl, hn⟩ | rfl <;> rcases hv with ⟨rfl, hn'⟩ | rfl
    all_goals
      simp (maxSteps := 2000000) (disch := first | omega | (simp only [List.length_append, List.length_cons, List.length_nil, List.length_map] <;> omega)) only [hb, hgot, hexc, grd_t, ev_pick, b2s_bsv, flg_bool, exc_nilS, exc_excl, swp_seq, swp_reg, swp_skip, swp_ret, swp_cond, seqK_n, condK_f, evK_some, appK_eq, appC_eq, grd_t, srun_nil, srun_cons, stepK_grd, fin_ret, sk_mv, sk_take, sk_give, sk_pick, sk_bin, sk_b2s, get_mk, raw_slot, raw_lit, put_some, wb_nil, wb_cons, ev_mv, ev_take, ev_give, ev_pick, bin_neq, bin_eqlS, ev_b2sN, ro_bool, got_excl, got_nilS, pub_excl, List.map_cons, List.map_nil, List.getD_cons_zero, List.getD_cons_succ, List.set_cons_zero, List.set_cons_succ, List.getElem?_cons_zero, List.length_nil, and_true, Bool.false_eq_true, ↓reduceIte, beq_self_eq_true]
      first
      | exact ⟨[], .inr ⟨by simp, by simp, rfl, rfl⟩⟩
      | (subst hn; simp (maxSteps := 2000000) (disch := first | omega | (simp only [List.length_append, List.length_cons, List.length_nil, List.length_map] <;> omega)) only [List.length_nil, and_true, beq_self_eq_true]; exact ⟨[], .inr ⟨by simp, by simp, rfl, rfl⟩⟩)
      | (subst hn'; simp (maxSteps := 2000000) (disch := first | omega | (simp only [List.length_append, List.length_cons, List.length_nil, List.length_map] <;> omega)) only [and_true, beq_self_eq_true]; exact ⟨[], .inr ⟨by simp, by simp, rfl, rfl⟩⟩)
  · have hd : decide ((i : Int) < (zs.length : Int)) = true := by simp; omega
    have hia : i < zs.length := by omega
    have hga := rdL_at (f := SV.int .i64) hia
    have hcs : c = .sl (zs.map (.int .i64)) zs.length .ro := by
      rcases hc with ⟨_, rfl⟩ | h
      · simp at hia
      · exact h
    have hsa : (zs.map (SV.int .i64)).length = zs.length := by simp
    clear hla' hgot' hexc' hflg' hro'
    subst hcs
    obtain ⟨K, hand⟩ : ∃ K, ∀ st, ev st (.bin .and) [.int .i64 zs[i], .int .i64 3] = some (.int .i64 K, [], st) := ⟨_, fun _ => bin_and⟩
    have hk : (K = 0 ∨ K = 3) ∨ K = 1 ∨ K = 2 ∨ (K ≠ 0 ∧ K ≠ 3 ∧ K ≠ 1 ∧ K ≠ 2) := by omega
    rcases hk with hk | hk | hk | hk
    · obtain ⟨k, p', e', n1, n2, n3, n4⟩ := numF_spec2 b p e 4294967295 hp
      have c22 := v22 (st := [mV v p e]) (st' := [mV v p' e']) (id := 0) hv hbl hp rfl n1 rfl
      rcases hov with ⟨rfl, hO0⟩ | rfl <;> rcases hk with rfl | rfl
      all_goals
        simp (maxSteps := 2000000) (disch := first | omega | (simp only [List.length_append, List.length_cons, List.length_nil, List.length_map] <;> omega)) only [hd, hga, hand, Int.toNat_natCast, flg_bool, exc_int, exc_ptr, swp_seq, swp_reg, swp_skip, swp_block, swp_cond, seqK_n, condK_t, condK_f, evK_some, appK_eq, srun_nil, srun_cons, stepK_call, sk_mv, sk_give, sk_bin, sk_idxA, sk_load, sk_lenL, get_mk, raw_slot, raw_lit, put_some, wb_nil, ev_mv, ev_give, ev_lenL, bin_eql, bin_lss, ev_loadE, idxA_ro, ro_int, ro_bool, ro_nilS, ro_ptr, ro_ro, ro_excl, got_int, got_ptr, pubs, pubsFrom, List.map_cons, List.map_nil, List.getD_cons_zero, List.getD_cons_succ, List.set_cons_zero, List.set_cons_succ, List.length_cons, List.length_nil, List.replicate_succ, List.replicate_zero, List.cons_append, List.nil_append, Bool.false_eq_true, Option.map_some, ↓reduceIte, Nat.mul_one, Nat.zero_add, beq_self_eq_true, Int.reduceBEq]
        refine callK_intro c22 ?_
        simp (maxSteps := 2000000) (disch := first | omega | (simp only [List.length_append, List.length_cons, List.length_nil, List.length_map] <;> omega)) only [exc_int, exc_nilS, exc_excl, appC_eq, srun_cons, stepK_call, get_mk, raw_slot, put_some, wb_nil, got_excl, got_int, got_nilS, pub_excl, pubs, pubsFrom, List.map_cons, List.map_nil, List.getD_cons_zero, List.getD_cons_succ, List.set_cons_zero, List.set_cons_succ, Bool.false_eq_true, ↓reduceIte]
        first
        | refine callK_intro (w13r (A := O) (.inl ⟨rfl, hO0⟩) k (by omega)) ?_
        | refine callK_intro (w13r (A := O) (.inr rfl) k (by omega)) ?_
        simp (maxSteps := 2000000) (disch := first | omega | (simp only [List.length_append, List.length_cons, List.length_nil, List.length_map] <;> omega)) only [lpK_n, flg_int, flg_excl, swp_reg, seqK_n, blkK_n, evK_some, appK_eq, appC_eq, srun_nil, srun_cons, sk_mv, sk_give, sk_bin, get_mk, raw_slot, raw_lit, put_some, wb_nil, wb_cons, ev_mv, ev_give, bin_add, ro_int, ro_excl, List.map_cons, List.map_nil, List.getD_cons_zero, List.getD_cons_succ, List.set_cons_zero, List.set_cons_succ, List.getElem?_cons_zero, Bool.false_eq_true, ↓reduceIte, wrap_i64]
        refine ⟨_, ?_, ⟨i + 1, p', e', O ++ be4 (clampN k), .sl (bsv (O ++ be4 (clampN k))) (O.length + 4) (.excl 1), by omega, n2, outV_mk (by rw [List.length_append, be4_len]), ?_, fun he' => ?_, rfl⟩, ?_⟩
        · refine Forget.of ?_
          repeat first | exact fg_e | refine fg_d ?_ | refine fg_k rfl ?_
        · rw [List.length_append]
          rw [be4_len]
          omega
        · have he : e = 0 := Classical.byContradiction fun h => h ((n3 h).1.symm.trans he')
          rw [(n4 he he').2.2.2, hOe he, clampN_nat k (n4 he he').2.1]
        · show ((zs.length : Int) - ((i + 1 : Nat) : Int)).toNat < ((zs.length : Int) - (i : Int)).toNat
          omega
    · subst hk
      obtain ⟨x, p', e', n1, n2, n3, n4⟩ := textF_spec2 b p e 16384 hp
      have c24 := v24 (st := [mV v p e]) (st' := [mV v p' e']) (id := 0) hv hbl hp rfl n1 rfl
      rcases hov with ⟨rfl, hO0⟩ | rfl
      all_goals
        simp (maxSteps := 2000000) (disch := first | omega | (simp only [List.length_append, List.length_cons, List.length_nil, List.length_map] <;> omega)) only [hd, hga, hand, Int.toNat_natCast, flg_bool, exc_int, exc_ptr, swp_seq, swp_reg, swp_skip, swp_block, swp_cond, seqK_n, condK_t, condK_f, evK_some, appK_eq, srun_nil, srun_cons, stepK_call, sk_mv, sk_give, sk_bin, sk_idxA, sk_load, sk_lenL, get_mk, raw_slot, raw_lit, put_some, wb_nil, ev_mv, ev_give, ev_lenL, bin_eql, bin_lss, ev_loadE, idxA_ro, ro_int, ro_bool, ro_nilS, ro_ptr, ro_ro, ro_excl, got_int, got_ptr, pubs, pubsFrom, List.map_cons, List.map_nil, List.getD_cons_zero, List.getD_cons_succ, List.set_cons_zero, List.set_cons_succ, List.length_cons, List.length_nil, List.replicate_succ, List.replicate_zero, List.cons_append, List.nil_append, Bool.false_eq_true, Option.map_some, ↓reduceIte, Nat.mul_one, Nat.zero_add, beq_self_eq_true, Int.reduceBEq]
        refine callK_intro c24 ?_
        simp (maxSteps := 2000000) (disch := first | omega | (simp only [List.length_append, List.length_cons, List.length_nil, List.length_map] <;> omega)) only [exc_str, exc_nilS, exc_excl, appC_eq, srun_cons, stepK_call, get_mk, raw_slot, put_some, wb_nil, got_excl, got_str, got_nilS, pub_excl, pubs, pubsFrom, List.map_cons, List.map_nil, List.getD_cons_zero, List.getD_cons_succ, List.set_cons_zero, List.set_cons_succ, Bool.false_eq_true, ↓reduceIte]
        first
        | refine callK_intro (w14r (A := O) (.inl ⟨rfl, hO0⟩) x (by omega)) ?_
        | refine callK_intro (w14r (A := O) (.inr rfl) x (by omega)) ?_
        simp (maxSteps := 2000000) (disch := first | omega | (simp only [List.length_append, List.length_cons, List.length_nil, List.length_map] <;> omega)) only [lpK_n, flg_int, flg_excl, swp_reg, seqK_n, blkK_n, evK_some, appK_eq, appC_eq, srun_nil, srun_cons, sk_mv, sk_give, sk_bin, get_mk, raw_slot, raw_lit, put_some, wb_nil, wb_cons, ev_mv, ev_give, bin_add, ro_int, ro_excl, List.map_cons, List.map_nil, List.getD_cons_zero, List.getD_cons_succ, List.set_cons_zero, List.set_cons_succ, List.getElem?_cons_zero, Bool.false_eq_true, ↓reduceIte, wrap_i64]
        refine ⟨_, ?_, ⟨i + 1, p', e', O ++ strB x, .sl (bsv (O ++ strB x)) (O.length + (strB x).length) (.excl 1), by omega, n2, outV_mk (by rw [List.length_append]), ?_, fun he' => ?_, rfl⟩, ?_⟩
        · refine Forget.of ?_
          repeat first | exact fg_e | refine fg_d ?_ | refine fg_k rfl ?_
        · rw [List.length_append]
          have := strB_len x
          omega
        · have he : e = 0 := Classical.byContradiction fun h => h ((n3 h).1.symm.trans he')
          rw [(n4 he he').2.2, hOe he]
        · show ((zs.length : Int) - ((i + 1 : Nat) : Int)).toNat < ((zs.length : Int) - (i : Int)).toNat
          omega
    · subst hk
      obtain ⟨x, p', e', n1, n2, n3, n4⟩ := rowF_spec2 b p e 256 16384 hp
      have c27 := v27 (st := [mV v p e]) (st' := [mV v p' e']) (id := 0) hv hbl hp rfl n1 rfl
      rcases rowV_cases x with ⟨hrv, hrs⟩ | ⟨hrv, hrs⟩ <;> rcases hov with ⟨rfl, hO0⟩ | rfl
      all_goals
        simp (maxSteps := 2000000) (disch := first | omega | (simp only [List.length_append, List.length_cons, List.length_nil, List.length_map] <;> omega)) only [hd, hga, hand, Int.toNat_natCast, flg_bool, exc_int, exc_ptr, swp_seq, swp_reg, swp_skip, swp_block, swp_cond, seqK_n, condK_t, condK_f, evK_some, appK_eq, srun_nil, srun_cons, stepK_call, sk_mv, sk_give, sk_bin, sk_idxA, sk_load, sk_lenL, get_mk, raw_slot, raw_lit, put_some, wb_nil, ev_mv, ev_give, ev_lenL, bin_eql, bin_lss, ev_loadE, idxA_ro, ro_int, ro_bool, ro_nilS, ro_ptr, ro_ro, ro_excl, got_int, got_ptr, pubs, pubsFrom, List.map_cons, List.map_nil, List.getD_cons_zero, List.getD_cons_succ, List.set_cons_zero, List.set_cons_succ, List.length_cons, List.length_nil, List.replicate_succ, List.replicate_zero, List.cons_append, List.nil_append, Bool.false_eq_true, Option.map_some, ↓reduceIte, Nat.mul_one, Nat.zero_add, beq_self_eq_true, Int.reduceBEq]
        refine callK_intro c27 ?_
        simp (maxSteps := 2000000) (disch := first | omega | (simp only [List.length_append, List.length_cons, List.length_nil, List.length_map] <;> omega)) only [hrv, exc_nilS, exc_excl, appC_eq, srun_cons, stepK_call, get_mk, raw_slot, put_some, wb_nil, got_excl, got_nilS, pub_excl, pubs, pubsFrom, List.map_cons, List.map_nil, List.getD_cons_zero, List.getD_cons_succ, List.set_cons_zero, List.set_cons_succ, Bool.false_eq_true, ↓reduceIte, Nat.zero_add]
        first
        | refine callK_intro (w15r (A := O) (.inl ⟨rfl, hO0⟩) hrs (by omega)) ?_
        | refine callK_intro (w15r (A := O) (.inr rfl) hrs (by omega)) ?_
        simp (maxSteps := 2000000) (disch := first | omega | (simp only [List.length_append, List.length_cons, List.length_nil, List.length_map] <;> omega)) only [lpK_n, flg_int, flg_excl, swp_reg, seqK_n, blkK_n, evK_some, appK_eq, appC_eq, srun_nil, srun_cons, sk_mv, sk_give, sk_bin, get_mk, raw_slot, raw_lit, put_some, wb_nil, wb_cons, ev_mv, ev_give, bin_add, ro_int, ro_excl, List.map_cons, List.map_nil, List.getD_cons_zero, List.getD_cons_succ, List.set_cons_zero, List.set_cons_succ, List.getElem?_cons_zero, List.getElem?_cons_succ, Bool.false_eq_true, ↓reduceIte, wrap_i64, List.length_append]
        refine ⟨_, ?_, ⟨i + 1, p', e', O ++ rowB x, .sl (bsv (O ++ rowB x)) (O.length + (rowB x).length) (.excl 1), by omega, n2, outV_mk (by rw [List.length_append]), ?_, fun he' => ?_, rfl⟩, ?_⟩
        · refine Forget.of ?_
          repeat first | exact fg_e | refine fg_d ?_ | refine fg_k rfl ?_
        · rw [List.length_append]
          have := rowB_len x
          omega
        · have he : e = 0 := Classical.byContradiction fun h => h ((n3 h).1.symm.trans he')
          rw [(n4 he he').2.2, hOe he]
        · show ((zs.length : Int) - ((i + 1 : Nat) : Int)).toNat < ((zs.length : Int) - (i : Int)).toNat
          omega
    · obtain ⟨k0, k3, k1, k2⟩ := hk
      have e0 : (K == 0) = false := by simpa using k0
      have e3 : (K == 3) = false := by simpa using k3
      have e1 : (K == 1) = false := by simpa using k1
      have e2 : (K == 2) = false := by simpa using k2
      simp (maxSteps := 2000000) (disch := first | omega | (simp only [List.length_append, List.length_cons, List.length_nil, List.length_map] <;> omega)) only [e0, e1, e2, e3, hd, hga, hand, lpK_n, Int.toNat_natCast, flg_bool, flg_int, swp_seq, swp_reg, swp_skip, swp_block, swp_cond, seqK_n, blkK_n, condK_t, condK_f, evK_some, appK_eq, srun_nil, srun_cons, sk_mv, sk_give, sk_bin, sk_idxA, sk_load, sk_lenL, get_mk, raw_slot, raw_lit, put_some, wb_nil, ev_mv, ev_give, ev_lenL, bin_add, bin_eql, bin_lss, ev_loadE, idxA_ro, ro_int, ro_bool, ro_ro, List.map_cons, List.map_nil, List.getD_cons_zero, List.getD_cons_succ, List.set_cons_zero, List.set_cons_succ, List.length_cons, List.length_nil, List.replicate_succ, List.replicate_zero, List.cons_append, List.nil_append, Bool.false_eq_true, Option.map_some, ↓reduceIte, Nat.mul_one, Nat.zero_add, wrap_i64]
      have hO1 : O.length ≤ (i + 1) * 5000000 := Nat.le_trans hO (Nat.mul_le_mul_right _ (Nat.le_succ i))
      refine ⟨_, ?_, ⟨i + 1, p, e, O, ov, by omega, hp, hov, hO1, hOe, rfl⟩, ?_⟩
      · refine Forget.of ?_
        repeat first | exact fg_e | refine fg_d ?_ | refine fg_k rfl ?_
      · show ((zs.length : Int) - ((i + 1 : Nat) : Int)).toNat < ((zs.length : Int) - (i : Int)).toNat
        omega
end Go.Sh.F
