/-
  The contracts so far.
  Records: rows of numbers, manifests that are the same, copies of rows, in the shadow machine.
  Records: the document's Same, in the shadow machine.
  Records: what copies of manifests are, in plain words.
  Records: Copy, in the shadow machine.
-/
import Derived.Test.YtdoncjpkmjganaaDoorGr12
set_option linter.unusedSimpArgs false
set_option linter.unusedVariables false
namespace Go.Sh.F
open Go.Proofs
def O100 : Orc := O54
theorem s100 : Sound Tryd.prog O100 := s54
theorem upb {f : FuncId} {a : List SV} {s : List Ob} {r : SV} {s2 : List Ob} (h : O36 f a s r s2) : O100 f a s r s2 := .inl (.inl (.inl (.inl (.inl (.inl (.inl (.inl (.inl (.inl (.inl (.inl (.inl (.inl (.inl (.inl (.inl (.inl h)))))))))))))))))
end Go.Sh.F
namespace Go.Sh.F
open Go.PathLaw Go.Proofs
theorem beq_take {l k : List Int} {i : Nat} (h : l.take i = k.take i) (hl : i < l.length) (hk : i < k.length) (e : l[i] = k[i]) : l.take (i + 1) = k.take (i + 1) := by
  rw [← List.take_append_getElem hl, ← List.take_append_getElem hk, h, e]
set_option maxHeartbeats 4000000 in
theorem g25 (O : Orc) (v : SV) (l : List Int) (w : SV) (k : List Int) (st : List Ob) (hv : RowI st v l) (hw : RowI st w k) (hl : l.length ≤ 1099511627776) : swpF O sf25 [v, w] st (fun r st' => r = .bool (decide (l = k)) ∧ st' = st) := by
  obtain ⟨q1, q2, q3, q4, q6, q7⟩ := hv.facts
  obtain ⟨u1, u2, u3, u4, u6, u7⟩ := hw.facts
  have q5 := hv.lenL
  have u5 := hw.lenL
  rcases bf ((l.length : Int) == (k.length : Int)) with h1 | h1
  · have e : decide (l = k) = false := by rw [decide_eq_false_iff_not]; rintro rfl; simp at h1
    rw [e]
    simp (maxSteps := 2000000) (disch := first | omega | (simp only [List.length_append, List.length_cons, List.length_nil, List.length_map] <;> omega)) only [sf25, h1, q1, q5, u1, u5, nbI, List.set_cons_zero, List.set_cons_succ, flg_bool, swp_seq, swp_reg, swp_ret, swp_cond, seqK_n, seqK_r, condK_t, evK_some, appK_eq, srun_nil, srun_cons, fin_ret, swpF_eq, sk_mv, sk_give, sk_bin, sk_lenL, get_mk, raw_slot, raw_lit, put_some, wb_nil, ev_mv, ev_give, bin_neq, ro_bool, List.map_cons, List.map_nil, List.getD_cons_zero, List.getD_cons_succ, List.set_cons_zero, List.set_cons_succ, List.length_cons, List.length_nil, List.replicate_succ, List.replicate_zero, List.cons_append, List.nil_append, Nat.reduceAdd, Nat.reduceSub, true_and, Bool.false_eq_true, ↓reduceIte, Nat.zero_add, Bool.not_false]
    first | exact ⟨_, .same⟩ | exact ⟨_, .same, rfl⟩ | exact ⟨_, .same, rfl, rfl⟩
  have hlk : l.length = k.length := by rw [beq_iff_eq] at h1; omega
  simp (maxSteps := 2000000) (disch := first | omega | (simp only [List.length_append, List.length_cons, List.length_nil, List.length_map] <;> omega)) only [sf25, h1, q1, q5, u1, u5, nbI, List.set_cons_zero, List.set_cons_succ, flg_bool, exc_int, swp_seq, swp_reg, swp_skip, swp_block, swp_cond, seqK_n, condK_f, evK_some, appK_eq, srun_nil, srun_cons, swpF_eq, sk_mv, sk_take, sk_give, sk_bin, sk_lenL, get_mk, raw_slot, raw_lit, put_some, wb_nil, ev_mv, ev_take, ev_give, bin_neq, ro_bool, got_int, List.map_cons, List.map_nil, List.getD_cons_zero, List.getD_cons_succ, List.set_cons_zero, List.set_cons_succ, List.length_cons, List.length_nil, List.replicate_succ, List.replicate_zero, List.cons_append, List.nil_append, Nat.reduceAdd, Nat.reduceSub, Bool.false_eq_true, ↓reduceIte, Nat.zero_add, Bool.not_true]
  refine swp_lp (fun S => ∃ (i : Nat), i ≤ l.length ∧ l.take i = k.take i ∧ S = ⟨[v, w, .undef, .undef, .undef, .int .i64 i] ++ List.replicate 20 .undef, st⟩)
      (fun S => match S.get 5 with | .int _ k => ((l.length : Int) - k).toNat | _ => 0)
      ⟨[v, w, .undef, .undef, .undef, .int .i64 0] ++ List.replicate 20 .undef, st⟩ ?_ ⟨0, Nat.zero_le _, rfl, rfl⟩ ?_
  · refine Forget.of ?_
    repeat first | exact fg_e | refine fg_d ?_ | refine fg_k rfl ?_
  rintro S ⟨i, hi, hall, rfl⟩
  by_cases him : i = l.length
  · have hd : decide ((i : Int) < (l.length : Int)) = false := by rw [decide_eq_false_iff_not]; omega
    have e : decide (l = k) = true := by
      rw [decide_eq_true_eq]
      rw [him, List.take_length, hlk, List.take_length] at hall; exact hall
    rw [e]
    simp (maxSteps := 2000000) (disch := first | omega | (simp only [List.length_append, List.length_cons, List.length_nil, List.length_map] <;> omega)) only [hd, q1, q5, List.set_cons_zero, List.set_cons_succ, lpK_e, flg_bool, swp_seq, swp_reg, swp_ret, swp_exit, swp_cond, seqK_n, seqK_e, blkK_e, condK_f, evK_some, appK_eq, srun_nil, srun_cons, fin_ret, sk_mv, sk_give, sk_bin, sk_lenL, get_mk, raw_slot, raw_lit, put_some, wb_nil, ev_mv, ev_give, bin_lss, ro_int, ro_bool, List.map_cons, List.map_nil, List.getD_cons_zero, List.getD_cons_succ, List.set_cons_zero, List.set_cons_succ, List.replicate_succ, List.replicate_zero, List.cons_append, List.nil_append, true_and, Bool.false_eq_true, ↓reduceIte]
    first | exact ⟨_, .same⟩ | exact ⟨_, .same, rfl⟩ | exact ⟨_, .same, rfl, rfl⟩
  have hd : decide ((i : Int) < (l.length : Int)) = true := by rw [decide_eq_true_eq]; omega
  have hil : i < l.length := by omega
  have hik : i < k.length := by omega
  have fin : ((l.length : Int) - ((i + 1 : Nat) : Int)).toNat < ((l.length : Int) - (i : Int)).toNat := by omega
  have z1 := hv.idxA hil .i64
  rw [Nat.mul_one] at z1
  have z2 := hv.ld1' (isv_at (List.getElem?_eq_getElem hil))
  have y1 := hw.idxA hik .i64
  rw [Nat.mul_one] at y1
  have y2 := hw.ld1' (isv_at (List.getElem?_eq_getElem hik))
  rcases bf (l[i] == k[i]) with e1 | e1
  · have e : decide (l = k) = false := by rw [decide_eq_false_iff_not]; rintro rfl; simp at e1
    rw [e]
    simp (maxSteps := 2000000) (disch := first | omega | (simp only [List.length_append, List.length_cons, List.length_nil, List.length_map] <;> omega)) only [hd, z1, z2, y1, y2, e1, q1, q5, u1, nbI, List.set_cons_zero, List.set_cons_succ, lpK_r, flg_bool, swp_seq, swp_reg, swp_skip, swp_ret, swp_block, swp_cond, seqK_n, seqK_r, blkK_r, condK_t, evK_some, appK_eq, srun_nil, srun_cons, fin_ret, sk_mv, sk_give, sk_bin, sk_idxA, sk_load, sk_lenL, get_mk, raw_slot, raw_lit, put_some, wb_nil, ev_mv, ev_give, bin_neq, bin_lss, ro_int, ro_bool, List.map_cons, List.map_nil, List.getD_cons_zero, List.getD_cons_succ, List.set_cons_zero, List.set_cons_succ, List.replicate_succ, List.replicate_zero, List.cons_append, List.nil_append, true_and, Bool.false_eq_true, ↓reduceIte, Bool.not_false]
    first | exact ⟨_, .same⟩ | exact ⟨_, .same, rfl⟩ | exact ⟨_, .same, rfl, rfl⟩
  · simp (maxSteps := 2000000) (disch := first | omega | (simp only [List.length_append, List.length_cons, List.length_nil, List.length_map] <;> omega)) only [hd, z1, z2, y1, y2, e1, q1, q5, u1, nbI, List.set_cons_zero, List.set_cons_succ, lpK_n, flg_int, swp_seq, swp_reg, swp_skip, swp_block, swp_cond, seqK_n, blkK_n, condK_t, condK_f, evK_some, appK_eq, srun_nil, srun_cons, sk_mv, sk_give, sk_bin, sk_idxA, sk_load, sk_lenL, get_mk, raw_slot, raw_lit, put_some, wb_nil, ev_mv, ev_give, bin_add, bin_neq, bin_lss, ro_int, List.map_cons, List.map_nil, List.getD_cons_zero, List.getD_cons_succ, List.set_cons_zero, List.set_cons_succ, List.replicate_succ, List.replicate_zero, List.cons_append, List.nil_append, Bool.false_eq_true, ↓reduceIte, Bool.not_true, wrap_i64]
    refine ⟨_, ?_, ⟨i + 1, by omega, beq_take hall hil hik (by simpa using e1), rfl⟩, by exact fin⟩
    refine Forget.of ?_
    repeat first | exact fg_e | refine fg_d ?_ | refine fg_k rfl ?_
def KInts : List Ob → List SV → SV → Prop := fun st args r => ∃ (v : SV) (l : List Int) (w : SV) (k : List Int), RowI st v l ∧ RowI st w k ∧ l.length ≤ 1099511627776 ∧ args = [v, w] ∧ r = .bool (decide (l = k))
def O101 : Orc := O100.add 25 (StC KInts)
theorem s101 : Sound Tryd.prog O101 := s100.addS c25 (by kernel_rfl) (by
  rintro args r st ⟨v, l, w, k, hv, hw, hl, rfl, rfl⟩
  exact ⟨by simp [sf25], g25 _ v l w k st hv hw hl⟩)
/-- A row of numbers, copied. -/
def cpI (v : SV) (l : List Int) : SV := match v with | .nilS => .nilS | _ => .sl (isv l) l.length (.excl 1)
theorem cpI_not {v : SV} {l : List Int} (h : v ≠ .nilS) : cpI v l = .sl (isv l) l.length (.excl 1) := by cases v <;> first | rfl | exact absurd rfl h
theorem nil_or (v : SV) : v = .nilS ∨ v ≠ .nilS := by cases v <;> simp
theorem ro_isv (l : List Int) : (isv l).map ro = isv l := by
  induction l with
  | nil => rfl
  | cons x l ih => simp only [isv, List.map_cons] at ih ⊢; rw [ih]; rfl
theorem app_isv {st : List Ob} {v : SV} {l : List Int} (hv : RowI st v l) (hn : v ≠ .nilS) (hl : l.length ≤ 1048576) {z : List SV} : ev st (.app 1 8 z) [.sl [] 0 (.excl 1), v] = some (.sl (isv l) l.length (.excl 1), [(0, .undef)], st) := by
  obtain ⟨h1, ⟨rfl, _⟩ | ⟨fl, h2, rfl⟩ | ⟨id, off, c, rfl, h2, h3, h4⟩⟩ := hv
  · exact absurd rfl hn
  · rw [app_excl rfl h1 (by omega) (by omega), List.nil_append, Nat.zero_add]
  · rw [ev_appO, h2, apO_some, if_pos h3, h4, ro_isv, app_excl rfl h1 (by omega) (by omega), List.nil_append, Nat.zero_add]
theorem eqN_row {st s : List Ob} {v : SV} {es n : Nat} {cs : List SV} (hv : RowAt st v es n cs) (hn : v ≠ .nilS) : ev s (.eqN .s false) [v, .nilS] = some (.bool false, [], s) := by
  obtain ⟨h1, ⟨rfl, _⟩ | ⟨fl, rfl | rfl, rfl⟩ | ⟨id, off, c, rfl, h2, h3, h4⟩⟩ := hv
  · exact absurd rfl hn
  · rfl
  · rfl
  · rfl
theorem g38 (O : Orc) (v : SV) (l : List Int) (st : List Ob) (hv : RowI st v l) (hl : l.length ≤ 1048576) : swpF O sf38 [v] st (fun r st' => r = cpI v l ∧ st' = st) := by
  rcases nil_or v with rfl | hn
  · show swpF O sf38 [.nilS] st (fun r st' => r = .nilS ∧ st' = st)
    simp (maxSteps := 2000000) (disch := first | omega | (simp only [List.length_append, List.length_cons, List.length_nil, List.length_map] <;> omega)) only [sf38, List.set_cons_zero, List.set_cons_succ, flg_nilS, swp_seq, swp_reg, swp_ret, swp_cond, seqK_n, seqK_r, condK_t, evK_some, appK_eq, srun_nil, srun_cons, fin_ret, swpF_eq, sk_mv, sk_give, sk_eqN, get_mk, raw_slot, raw_lit, put_some, wb_nil, ev_mv, ev_give, ev_eqNs1, ro_nilS, List.map_cons, List.map_nil, List.getD_cons_zero, List.getD_cons_succ, List.set_cons_zero, List.set_cons_succ, List.length_cons, List.length_nil, List.replicate_succ, List.replicate_zero, List.cons_append, List.nil_append, Nat.reduceSub, true_and, Bool.false_eq_true, ↓reduceIte, Nat.zero_add]
    first | exact ⟨_, .same⟩ | exact ⟨_, .same, rfl⟩ | exact ⟨_, .same, rfl, rfl⟩
  · rw [cpI_not hn]
    obtain ⟨q1, q2, q3, q4, q6, q7⟩ := hv.facts
    simp (maxSteps := 2000000) (disch := first | omega | (simp only [List.length_append, List.length_cons, List.length_nil, List.length_map] <;> omega)) only [sf38, eqN_row hv hn, app_isv hv hn hl, q1, List.set_cons_zero, List.set_cons_succ, flg_nilS, flg_excl, swp_seq, swp_reg, swp_skip, swp_ret, swp_cond, seqK_n, condK_f, evK_some, appK_eq, srun_nil, srun_cons, fin_ret, swpF_eq, sk_mv, sk_give, sk_eqN, sk_bsl, sk_app, get_mk, raw_slot, raw_lit, put_some, wb_nil, wb_cons, ev_mv, ev_give, ev_bsl, ro_nilS, ro_excl, pubs, pubsFrom, List.map_cons, List.map_nil, List.getD_cons_zero, List.getD_cons_succ, List.set_cons_zero, List.set_cons_succ, List.getElem?_cons_zero, List.length_cons, List.length_nil, List.replicate_succ, List.replicate_zero, List.cons_append, List.nil_append, Nat.reduceSub, true_and, and_true, Bool.false_eq_true, Option.map_some, ↓reduceIte, List.all_nil, List.zip_nil_right, rep, fillV, List.flatten_nil, Nat.mul_one, Nat.zero_add]
    first | exact ⟨_, .same⟩ | exact ⟨_, .same, rfl⟩ | exact ⟨_, .same, rfl, rfl⟩
def O102 : Orc := O101.add 38 (StC fun st args r => ∃ (v : SV) (l : List Int), RowI st v l ∧ l.length ≤ 1048576 ∧ args = [v] ∧ r = cpI v l)
theorem s102 : Sound Tryd.prog O102 := s101.addS c38 (by kernel_rfl) (by
  rintro args r st ⟨v, l, hv, hl, rfl, rfl⟩
  exact ⟨by simp [sf38], g38 _ v l st hv hl⟩)
/-- Manifests that are the same. -/
def samePc (p q : Pc) : Bool := p.path == q.path && p.has == q.has && p.size == q.size && p.dig == q.dig && (p.cl == q.cl && p.cr == q.cr) && decide (p.ch = q.ch)
def sameL : List Pc → List Pc → Bool
  | [], [] => true
  | p :: r, q :: s => samePc p q && sameL r s
  | _, _ => false
theorem sameL_len : ∀ {a b : List Pc}, sameL a b = true → a.length = b.length
  | [], [], _ => rfl
  | [], _ :: _, h => by simp [sameL] at h
  | _ :: _, [], h => by simp [sameL] at h
  | p :: r, q :: s, h => by
    simp only [sameL, Bool.and_eq_true] at h
    simp [sameL_len h.2]
theorem sameL_iff : ∀ {a b : List Pc}, a.length = b.length → (sameL a b = true ↔ ∀ (i : Nat) (p q : Pc), a[i]? = some p → b[i]? = some q → samePc p q = true)
  | [], [], _ => by simp [sameL]
  | [], _ :: _, h => by simp at h
  | _ :: _, [], h => by simp at h
  | p :: r, q :: s, h => by
    rw [sameL, Bool.and_eq_true, sameL_iff (by simpa using h)]
    constructor
    · rintro ⟨h1, h2⟩ i x y hx hy
      cases i with
      | zero => simp at hx hy; subst hx hy; exact h1
      | succ i => exact h2 i x y (by simpa using hx) (by simpa using hy)
    · intro h
      exact ⟨h 0 p q rfl rfl, fun i x y hx hy => h (i + 1) x y (by simpa using hx) (by simpa using hy)⟩
def sameH (a b : Mf) : Bool := a.au == b.au && a.ve == b.ve && a.pr == b.pr && a.ep == b.ep && a.ne == b.ne && a.se == b.se && a.sh == b.sh
def sameM (a b : Mf) : Bool := sameH a b && sameL a.ps b.ps
end Go.Sh.F
namespace Go.Sh.F
open Go.PathLaw Go.Proofs
theorem nbS {x y : List UInt8} {st : List Ob} : ev st (.bin .neq) [.str x, .str y] = some (.bool (!(x == y)), [], st) := by rw [bin_neqS]
theorem nbB {st : List Ob} {x y : Bool} : ev st (.eqB true) [.bool x, .bool y] = some (.bool (!(x == y)), [], st) := rfl
theorem r25 {v : SV} {l : List Int} {w : SV} {k : List Int} {st : List Ob} (hv : RowI st v l) (hw : RowI st w k) (hl : l.length ≤ 1099511627776) : O102 25 [v, w] st (.bool (decide (l = k))) st := (by repeat first | exact Or.inr ⟨rfl, rfl, v, l, w, k, hv, hw, hl, rfl, rfl⟩ | refine Or.inl ?_)
theorem pcell3 {p : Pc} {i : Nat} {c : SV} (h : p.cells[i]? = some c) (st : List Ob) (l : List Ob) (j : Nat) (hl : l[j]? = some (.cells p.cells)) : ldP ((st ++ l)[st.length + j]?) i (st ++ l) = some (ro c, [], st ++ l) := by
  rw [getA, hl, ldP_some, h]; rfl
set_option maxHeartbeats 16000000 in
set_option maxRecDepth 20000 in
theorem g18 (a b : Mf) (st : List Ob) (ha : a.ok st) (hb : b.ok st) (ho : okSt st) : swpF O102 sf18 [.agg a.cells, .agg b.cells] st (fun r st' => r = .bool (sameM a b) ∧ st' = st) := by
  obtain ⟨q1, q2, q3, q4, q6, q7⟩ := ha.1.facts
  obtain ⟨u1, u2, u3, u4, u6, u7⟩ := hb.1.facts
  have q5 := ha.1.lenL
  have u5 := hb.1.lenL
  have qv := ha.1.cv
  have uv := hb.1.cv
  have na := ha.2.1
  have i1 := ha.idp 2
  have i2 := hb.idp 2
  have o2 : okSt (st ++ [.cells [.int .i64 a.au, .int .i64 a.ve, .int .i64 a.pr, .int .i64 a.ep, .int .i64 a.ne, .int .i64 a.se, .int .i64 a.sh, a.pv], .cells [.int .i64 b.au, .int .i64 b.ve, .int .i64 b.pr, .int .i64 b.ep, .int .i64 b.ne, .int .i64 b.se, .int .i64 b.sh, b.pv]]) := by
    refine okSt_appL ho ?_
    simp only [List.all_cons, List.all_nil, Bool.and_true, obOk, idOks, idOk, List.length_cons, List.length_nil, Nat.zero_add, Bool.true_and]
    rw [i1, i2]; rfl
  simp only [Mf.cells]
  rcases bf (a.au == b.au) with h0 | h0
  · simp (maxSteps := 2000000) (disch := first | omega | (simp only [List.length_append, List.length_cons, List.length_nil, List.length_map] <;> omega)) only [sf18, h0, q6, q7, u6, u7, nbI, cv_agg, cell_int, getA0, getA, List.append_assoc, Nat.add_zero, List.set_cons_zero, List.set_cons_succ, flg_bool, exc_agg, swp_seq, swp_reg, swp_ret, swp_cond, seqK_n, seqK_r, condK_t, evK_some, appK_eq, grd_t, srun_nil, srun_cons, stepK_grd, fin_ret, swpF_eq, sk_mv, sk_give, sk_pick, sk_bin, sk_fld, sk_load, sk_box, get_mk, raw_slot, raw_lit, put_some, wb_nil, ev_mv, ev_give, ev_pick, ev_fld, bin_neq, ev_box, ev_ldP, ldP_some, ro_int, ro_bool, ro1_int, got_agg, List.map_cons, List.map_nil, List.getD_cons_zero, List.getD_cons_succ, List.set_cons_zero, List.set_cons_succ, List.getElem?_cons_zero, List.getElem?_cons_succ, List.length_cons, List.length_nil, List.replicate_succ, List.replicate_zero, List.cons_append, List.nil_append, Nat.reduceAdd, Nat.reduceSub, Bool.false_eq_true, Option.map_some, ↓reduceIte, List.all_cons, List.all_nil, Bool.and_self, Nat.zero_add, reduceCtorEq, Bool.not_false, List.length_append]
    first | exact ⟨_, trim1 ho rfl, by simp [sameM, sameH, h0], rfl⟩ | exact ⟨_, trim1 ho rfl, by simp [sameM, sameH, h0]⟩ | exact ⟨_, .same, by simp [sameM, sameH, h0], rfl⟩
  rcases bf (a.ve == b.ve) with h1 | h1
  · simp (maxSteps := 2000000) (disch := first | omega | (simp only [List.length_append, List.length_cons, List.length_nil, List.length_map] <;> omega)) only [sf18, h0, h1, q6, q7, u6, u7, nbI, cv_agg, cell_int, getA0, getA, List.append_assoc, Nat.add_zero, List.set_cons_zero, List.set_cons_succ, flg_bool, exc_agg, swp_seq, swp_reg, swp_ret, swp_cond, seqK_n, seqK_r, condK_t, evK_some, appK_eq, grd_t, srun_nil, srun_cons, stepK_grd, fin_ret, swpF_eq, sk_mv, sk_give, sk_pick, sk_bin, sk_fld, sk_load, sk_box, get_mk, raw_slot, raw_lit, put_some, wb_nil, ev_mv, ev_give, ev_pick, ev_fld, bin_neq, ev_box, ev_ldP, ldP_some, ro_int, ro_bool, ro1_int, got_agg, List.map_cons, List.map_nil, List.getD_cons_zero, List.getD_cons_succ, List.set_cons_zero, List.set_cons_succ, List.getElem?_cons_zero, List.getElem?_cons_succ, List.length_cons, List.length_nil, List.replicate_succ, List.replicate_zero, List.cons_append, List.nil_append, Nat.reduceAdd, Nat.reduceSub, Bool.false_eq_true, Option.map_some, ↓reduceIte, List.all_cons, List.all_nil, Bool.and_self, Nat.zero_add, reduceCtorEq, Bool.not_true, Bool.not_false, List.length_append]
    first | exact ⟨_, trim1 ho rfl, by simp [sameM, sameH, h1], rfl⟩ | exact ⟨_, trim1 ho rfl, by simp [sameM, sameH, h1]⟩ | exact ⟨_, .same, by simp [sameM, sameH, h1], rfl⟩
  rcases bf (a.pr == b.pr) with h2 | h2
  · simp (maxSteps := 2000000) (disch := first | omega | (simp only [List.length_append, List.length_cons, List.length_nil, List.length_map] <;> omega)) only [sf18, h0, h1, h2, q6, q7, u6, u7, nbI, cv_agg, cell_int, getA0, getA, List.append_assoc, Nat.add_zero, List.set_cons_zero, List.set_cons_succ, flg_bool, exc_agg, swp_seq, swp_reg, swp_ret, swp_cond, seqK_n, seqK_r, condK_t, evK_some, appK_eq, grd_t, srun_nil, srun_cons, stepK_grd, fin_ret, swpF_eq, sk_mv, sk_give, sk_pick, sk_bin, sk_fld, sk_load, sk_box, get_mk, raw_slot, raw_lit, put_some, wb_nil, ev_mv, ev_give, ev_pick, ev_fld, bin_neq, ev_box, ev_ldP, ldP_some, ro_int, ro_bool, ro1_int, got_agg, List.map_cons, List.map_nil, List.getD_cons_zero, List.getD_cons_succ, List.set_cons_zero, List.set_cons_succ, List.getElem?_cons_zero, List.getElem?_cons_succ, List.length_cons, List.length_nil, List.replicate_succ, List.replicate_zero, List.cons_append, List.nil_append, Nat.reduceAdd, Nat.reduceSub, Bool.false_eq_true, Option.map_some, ↓reduceIte, List.all_cons, List.all_nil, Bool.and_self, Nat.zero_add, reduceCtorEq, Bool.not_true, Bool.not_false, List.length_append]
    first | exact ⟨_, trim1 ho rfl, by simp [sameM, sameH, h2], rfl⟩ | exact ⟨_, trim1 ho rfl, by simp [sameM, sameH, h2]⟩ | exact ⟨_, .same, by simp [sameM, sameH, h2], rfl⟩
  rcases bf (a.ep == b.ep) with h3 | h3
  · simp (maxSteps := 2000000) (disch := first | omega | (simp only [List.length_append, List.length_cons, List.length_nil, List.length_map] <;> omega)) only [sf18, h0, h1, h2, h3, q6, q7, u6, u7, nbI, cv_agg, cell_int, getA0, getA, List.append_assoc, Nat.add_zero, List.set_cons_zero, List.set_cons_succ, flg_bool, exc_agg, swp_seq, swp_reg, swp_ret, swp_cond, seqK_n, seqK_r, condK_t, evK_some, appK_eq, grd_t, srun_nil, srun_cons, stepK_grd, fin_ret, swpF_eq, sk_mv, sk_give, sk_pick, sk_bin, sk_fld, sk_load, sk_box, get_mk, raw_slot, raw_lit, put_some, wb_nil, ev_mv, ev_give, ev_pick, ev_fld, bin_neq, ev_box, ev_ldP, ldP_some, ro_int, ro_bool, ro1_int, got_agg, List.map_cons, List.map_nil, List.getD_cons_zero, List.getD_cons_succ, List.set_cons_zero, List.set_cons_succ, List.getElem?_cons_zero, List.getElem?_cons_succ, List.length_cons, List.length_nil, List.replicate_succ, List.replicate_zero, List.cons_append, List.nil_append, Nat.reduceAdd, Nat.reduceSub, Bool.false_eq_true, Option.map_some, ↓reduceIte, List.all_cons, List.all_nil, Bool.and_self, Nat.zero_add, reduceCtorEq, Bool.not_true, Bool.not_false, List.length_append]
    first | exact ⟨_, trim1 ho rfl, by simp [sameM, sameH, h3], rfl⟩ | exact ⟨_, trim1 ho rfl, by simp [sameM, sameH, h3]⟩ | exact ⟨_, .same, by simp [sameM, sameH, h3], rfl⟩
  rcases bf (a.ne == b.ne) with h4 | h4
  · simp (maxSteps := 2000000) (disch := first | omega | (simp only [List.length_append, List.length_cons, List.length_nil, List.length_map] <;> omega)) only [sf18, h0, h1, h2, h3, h4, q6, q7, u6, u7, nbI, cv_agg, cell_int, getA0, getA, List.append_assoc, Nat.add_zero, List.set_cons_zero, List.set_cons_succ, flg_bool, exc_agg, swp_seq, swp_reg, swp_ret, swp_cond, seqK_n, seqK_r, condK_t, evK_some, appK_eq, grd_t, srun_nil, srun_cons, stepK_grd, fin_ret, swpF_eq, sk_mv, sk_give, sk_pick, sk_bin, sk_fld, sk_load, sk_box, get_mk, raw_slot, raw_lit, put_some, wb_nil, ev_mv, ev_give, ev_pick, ev_fld, bin_neq, ev_box, ev_ldP, ldP_some, ro_int, ro_bool, ro1_int, got_agg, List.map_cons, List.map_nil, List.getD_cons_zero, List.getD_cons_succ, List.set_cons_zero, List.set_cons_succ, List.getElem?_cons_zero, List.getElem?_cons_succ, List.length_cons, List.length_nil, List.replicate_succ, List.replicate_zero, List.cons_append, List.nil_append, Nat.reduceAdd, Nat.reduceSub, Bool.false_eq_true, Option.map_some, ↓reduceIte, List.all_cons, List.all_nil, Bool.and_self, Nat.zero_add, reduceCtorEq, Bool.not_true, Bool.not_false, List.length_append]
    first | exact ⟨_, trim1 ho rfl, by simp [sameM, sameH, h4], rfl⟩ | exact ⟨_, trim1 ho rfl, by simp [sameM, sameH, h4]⟩ | exact ⟨_, .same, by simp [sameM, sameH, h4], rfl⟩
  rcases bf (a.se == b.se) with h5 | h5
  · simp (maxSteps := 2000000) (disch := first | omega | (simp only [List.length_append, List.length_cons, List.length_nil, List.length_map] <;> omega)) only [sf18, h0, h1, h2, h3, h4, h5, q6, q7, u6, u7, nbI, cv_agg, cell_int, getA0, getA, List.append_assoc, Nat.add_zero, List.set_cons_zero, List.set_cons_succ, flg_bool, exc_agg, swp_seq, swp_reg, swp_ret, swp_cond, seqK_n, seqK_r, condK_t, evK_some, appK_eq, grd_t, srun_nil, srun_cons, stepK_grd, fin_ret, swpF_eq, sk_mv, sk_give, sk_pick, sk_bin, sk_fld, sk_load, sk_box, get_mk, raw_slot, raw_lit, put_some, wb_nil, ev_mv, ev_give, ev_pick, ev_fld, bin_neq, ev_box, ev_ldP, ldP_some, ro_int, ro_bool, ro1_int, got_agg, List.map_cons, List.map_nil, List.getD_cons_zero, List.getD_cons_succ, List.set_cons_zero, List.set_cons_succ, List.getElem?_cons_zero, List.getElem?_cons_succ, List.length_cons, List.length_nil, List.replicate_succ, List.replicate_zero, List.cons_append, List.nil_append, Nat.reduceAdd, Nat.reduceSub, Bool.false_eq_true, Option.map_some, ↓reduceIte, List.all_cons, List.all_nil, Bool.and_self, Nat.zero_add, reduceCtorEq, Bool.not_true, Bool.not_false, List.length_append]
    first | exact ⟨_, trim1 ho rfl, by simp [sameM, sameH, h5], rfl⟩ | exact ⟨_, trim1 ho rfl, by simp [sameM, sameH, h5]⟩ | exact ⟨_, .same, by simp [sameM, sameH, h5], rfl⟩
  rcases bf (a.sh == b.sh) with h6 | h6
  · simp (maxSteps := 2000000) (disch := first | omega | (simp only [List.length_append, List.length_cons, List.length_nil, List.length_map] <;> omega)) only [sf18, h0, h1, h2, h3, h4, h5, h6, q6, q7, u6, u7, nbI, cv_agg, cell_int, getA0, getA, List.append_assoc, Nat.add_zero, List.set_cons_zero, List.set_cons_succ, flg_bool, exc_agg, swp_seq, swp_reg, swp_ret, swp_cond, seqK_n, seqK_r, condK_t, evK_some, appK_eq, grd_t, srun_nil, srun_cons, stepK_grd, fin_ret, swpF_eq, sk_mv, sk_give, sk_pick, sk_bin, sk_fld, sk_load, sk_box, get_mk, raw_slot, raw_lit, put_some, wb_nil, ev_mv, ev_give, ev_pick, ev_fld, bin_neq, ev_box, ev_ldP, ldP_some, ro_int, ro_bool, ro1_int, got_agg, List.map_cons, List.map_nil, List.getD_cons_zero, List.getD_cons_succ, List.set_cons_zero, List.set_cons_succ, List.getElem?_cons_zero, List.getElem?_cons_succ, List.length_cons, List.length_nil, List.replicate_succ, List.replicate_zero, List.cons_append, List.nil_append, Nat.reduceAdd, Nat.reduceSub, Bool.false_eq_true, Option.map_some, ↓reduceIte, List.all_cons, List.all_nil, Bool.and_self, Nat.zero_add, reduceCtorEq, Bool.not_true, Bool.not_false, List.length_append]
    first | exact ⟨_, trim1 ho rfl, by simp [sameM, sameH, h6], rfl⟩ | exact ⟨_, trim1 ho rfl, by simp [sameM, sameH, h6]⟩ | exact ⟨_, .same, by simp [sameM, sameH, h6], rfl⟩
  have eh : sameH a b = true := by unfold sameH; simp only [h0, h1, h2, h3, h4, h5, h6, Bool.and_self]
  rcases bf ((a.ps.length : Int) == (b.ps.length : Int)) with h7 | h7
  · have e : sameL a.ps b.ps = false := by
      rw [Bool.eq_false_iff]; intro h
      rw [sameL_len h] at h7; simp at h7
    simp (maxSteps := 2000000) (disch := first | omega | (simp only [List.length_append, List.length_cons, List.length_nil, List.length_map] <;> omega)) only [sf18, h0, h1, h2, h3, h4, h5, h6, h7, q1, q5, q6, q7, u1, u5, u6, u7, nbI, cv_agg, cell_int, getA0, getA, List.append_assoc, Nat.add_zero, List.set_cons_zero, List.set_cons_succ, flg_bool, exc_agg, swp_seq, swp_reg, swp_ret, swp_cond, seqK_n, seqK_r, condK_t, evK_some, appK_eq, grd_t, srun_nil, srun_cons, stepK_grd, fin_ret, swpF_eq, sk_mv, sk_give, sk_pick, sk_bin, sk_fld, sk_load, sk_lenL, sk_box, get_mk, raw_slot, raw_lit, put_some, wb_nil, ev_mv, ev_give, ev_pick, ev_fld, bin_neq, ev_box, ev_ldP, ldP_some, ro_int, ro_bool, ro1_int, got_agg, List.map_cons, List.map_nil, List.getD_cons_zero, List.getD_cons_succ, List.set_cons_zero, List.set_cons_succ, List.getElem?_cons_zero, List.getElem?_cons_succ, List.length_cons, List.length_nil, List.replicate_succ, List.replicate_zero, List.cons_append, List.nil_append, Nat.reduceAdd, Nat.reduceSub, Bool.false_eq_true, Option.map_some, ↓reduceIte, List.all_cons, List.all_nil, Bool.and_self, Nat.zero_add, Bool.not_true, Bool.not_false, List.length_append]
    first | exact ⟨_, trim1 ho rfl, by simp [sameM, e], rfl⟩ | exact ⟨_, trim1 ho rfl, by simp [sameM, e]⟩ | exact ⟨_, .same, by simp [sameM, e], rfl⟩
  have hlk : a.ps.length = b.ps.length := by rw [beq_iff_eq] at h7; omega
  simp (maxSteps := 2000000) (disch := first | omega | (simp only [List.length_append, List.length_cons, List.length_nil, List.length_map] <;> omega)) only [sf18, h0, h1, h2, h3, h4, h5, h6, h7, q1, q5, q6, q7, u1, u5, u6, u7, nbI, cv_agg, cell_int, getA0, getA, List.append_assoc, Nat.add_zero, List.set_cons_zero, List.set_cons_succ, flg_bool, exc_int, exc_agg, swp_seq, swp_reg, swp_skip, swp_block, swp_cond, seqK_n, condK_f, evK_some, appK_eq, grd_t, srun_nil, srun_cons, stepK_grd, swpF_eq, sk_mv, sk_take, sk_give, sk_pick, sk_bin, sk_fld, sk_load, sk_lenL, sk_box, get_mk, raw_slot, raw_lit, put_some, wb_nil, ev_mv, ev_take, ev_give, ev_pick, ev_fld, bin_neq, ev_box, ev_ldP, ldP_some, ro_int, ro_bool, ro1_int, got_int, got_agg, List.map_cons, List.map_nil, List.getD_cons_zero, List.getD_cons_succ, List.set_cons_zero, List.set_cons_succ, List.getElem?_cons_zero, List.getElem?_cons_succ, List.length_cons, List.length_nil, List.replicate_succ, List.replicate_zero, List.cons_append, List.nil_append, Nat.reduceAdd, Nat.reduceSub, Bool.false_eq_true, Option.map_some, ↓reduceIte, List.all_cons, List.all_nil, Bool.and_self, Nat.zero_add, Bool.not_true, List.length_append]
  refine swp_lp (fun S => ∃ (i : Nat), i ≤ a.ps.length ∧ (∀ (j : Nat) (p q : Pc), j < i → a.ps[j]? = some p → b.ps[j]? = some q → samePc p q = true) ∧ S = ⟨[.undef, .undef, .ptr st.length 0, .ptr (st.length + 1) 0, .undef, .int .i64 i] ++ List.replicate 116 .undef, st ++ [.cells [.int .i64 a.au, .int .i64 a.ve, .int .i64 a.pr, .int .i64 a.ep, .int .i64 a.ne, .int .i64 a.se, .int .i64 a.sh, a.pv], .cells [.int .i64 b.au, .int .i64 b.ve, .int .i64 b.pr, .int .i64 b.ep, .int .i64 b.ne, .int .i64 b.se, .int .i64 b.sh, b.pv]]⟩)
      (fun S => match S.get 5 with | .int _ k => ((a.ps.length : Int) - k).toNat | _ => 0)
      ⟨[.undef, .undef, .ptr st.length 0, .ptr (st.length + 1) 0, .undef, .int .i64 0] ++ List.replicate 116 .undef, st ++ [.cells [.int .i64 a.au, .int .i64 a.ve, .int .i64 a.pr, .int .i64 a.ep, .int .i64 a.ne, .int .i64 a.se, .int .i64 a.sh, a.pv], .cells [.int .i64 b.au, .int .i64 b.ve, .int .i64 b.pr, .int .i64 b.ep, .int .i64 b.ne, .int .i64 b.se, .int .i64 b.sh, b.pv]]⟩ ?_ ⟨0, Nat.zero_le _, fun j p q h => by omega, rfl⟩ ?_
  · refine Forget.of ?_
    repeat first | exact fg_e | refine fg_d ?_ | refine fg_k rfl ?_
  rintro S ⟨i, hi, hall, rfl⟩
  by_cases him : i = a.ps.length
  · have hd : decide ((i : Int) < (a.ps.length : Int)) = false := by rw [decide_eq_false_iff_not]; omega
    have e : sameL a.ps b.ps = true := (sameL_iff hlk).2 fun j p q hp hq => hall j p q (by rw [him]; exact (List.getElem?_eq_some_iff.1 hp).1) hp hq
    simp (maxSteps := 2000000) (disch := first | omega | (simp only [List.length_append, List.length_cons, List.length_nil, List.length_map] <;> omega)) only [hd, q1, q5, getA0, List.set_cons_zero, List.set_cons_succ, lpK_e, flg_bool, swp_seq, swp_reg, swp_ret, swp_exit, swp_cond, seqK_n, seqK_e, blkK_e, condK_f, evK_some, appK_eq, srun_nil, srun_cons, fin_ret, sk_mv, sk_give, sk_bin, sk_fld, sk_load, sk_lenL, get_mk, raw_slot, raw_lit, put_some, wb_nil, ev_mv, ev_give, ev_fld, bin_lss, ev_ldP, ldP_some, ro_int, ro_bool, List.map_cons, List.map_nil, List.getD_cons_zero, List.getD_cons_succ, List.set_cons_zero, List.set_cons_succ, List.getElem?_cons_zero, List.getElem?_cons_succ, List.length_cons, List.length_nil, List.replicate_succ, List.replicate_zero, List.cons_append, List.nil_append, Nat.reduceAdd, Bool.false_eq_true, Option.map_some, ↓reduceIte, Nat.zero_add, List.length_append]
    first | exact ⟨_, trim1 ho rfl, by simp [sameM, eh, e], rfl⟩ | exact ⟨_, trim1 ho rfl, by simp [sameM, eh, e]⟩ | exact ⟨_, .same, by simp [sameM, eh, e], rfl⟩
  have hd : decide ((i : Int) < (a.ps.length : Int)) = true := by rw [decide_eq_true_eq]; omega
  have hia : i < a.ps.length := by omega
  have hib : i < b.ps.length := by omega
  have fin : ((a.ps.length : Int) - ((i + 1 : Nat) : Int)).toNat < ((a.ps.length : Int) - (i : Int)).toNat := by omega
  have z1 := ha.1.idxB hia .i64
  have z2 := fun x => ha.at' hia x
  have y1 := hb.1.idxB hib .i64
  have y2 := fun x => hb.at' hib x
  have hpa := List.getElem?_eq_getElem hia
  have hpb := List.getElem?_eq_getElem hib
  have oa := ha.2.2 _ (List.getElem_mem hia)
  have ob := hb.2.2 _ (List.getElem_mem hib)
  obtain ⟨p, ep⟩ : ∃ p, a.ps[i] = p := ⟨_, rfl⟩
  obtain ⟨q, eq⟩ : ∃ q, b.ps[i] = q := ⟨_, rfl⟩
  rw [ep] at z2 hpa oa
  rw [eq] at y2 hpb ob
  have m1 := ro1_pc oa
  have m2 := ro1_pc ob
  obtain ⟨w1, w2, w3, w4, w6, w7⟩ := oa.1.facts
  obtain ⟨x1, x2, x3, x4, x6, x7⟩ := ob.1.facts
  have sa := st_aggA (st := st) (l := [.cells [.int .i64 a.au, .int .i64 a.ve, .int .i64 a.pr, .int .i64 a.ep, .int .i64 a.ne, .int .i64 a.se, .int .i64 a.sh, a.pv], .cells [.int .i64 b.au, .int .i64 b.ve, .int .i64 b.pr, .int .i64 b.ep, .int .i64 b.ne, .int .i64 b.se, .int .i64 b.sh, b.pv], .cells [.str [], .bool false, .int .i64 0, .nilS, .int .i64 0, .int .i64 0, .int .i64 0]]) (i := 2) (n := 7) (b := true) (xs := p.cells) rfl m1 (cell_pc oa) rfl rfl
  have sb := st_aggA (st := st) (l := [.cells [.int .i64 a.au, .int .i64 a.ve, .int .i64 a.pr, .int .i64 a.ep, .int .i64 a.ne, .int .i64 a.se, .int .i64 a.sh, a.pv], .cells [.int .i64 b.au, .int .i64 b.ve, .int .i64 b.pr, .int .i64 b.ep, .int .i64 b.ne, .int .i64 b.se, .int .i64 b.sh, b.pv], .cells p.cells, .cells [.str [], .bool false, .int .i64 0, .nilS, .int .i64 0, .int .i64 0, .int .i64 0]]) (i := 3) (n := 7) (b := true) (xs := q.cells) rfl m2 (cell_pc ob) rfl rfl
  have no : samePc p q = false → sameL a.ps b.ps = false := by
    intro h
    rw [Bool.eq_false_iff]; intro h2
    rw [(sameL_iff hlk).1 h2 i p q hpa hpb] at h; cases h
  rcases bf (p.path == q.path) with k0 | k0
  · have e := no (by unfold samePc; simp only [k0, Bool.false_and])
    simp (maxSteps := 2000000) (disch := first | omega | (simp only [List.length_append, List.length_cons, List.length_nil, List.length_map] <;> omega)) only [k0, hd, z1, z2, y1, y2, sa, sb, pget0, nbS, q1, q5, u1, getA0, getA, List.append_assoc, Nat.add_zero, List.set_cons_zero, List.set_cons_succ, lpK_r, flg_bool, sk_idxB, swp_seq, swp_reg, swp_skip, swp_ret, swp_block, swp_cond, seqK_n, seqK_r, blkK_r, condK_t, evK_some, appK_eq, grd_t, srun_nil, srun_cons, stepK_grd, fin_ret, sk_mv, sk_give, sk_pick, sk_bin, sk_fld, sk_load, sk_store, sk_lenL, sk_alloc, get_mk, raw_slot, raw_lit, put_some, put_none, wb_nil, ev_mv, ev_give, ev_pick, ev_fld, bin_lss, ev_alloc, ev_ldP, ldP_some, ro_int, ro_bool, ro_str, List.map_cons, List.map_nil, List.getD_cons_zero, List.getD_cons_succ, List.set_cons_zero, List.set_cons_succ, List.getElem?_cons_zero, List.getElem?_cons_succ, List.length_cons, List.length_nil, List.replicate_succ, List.replicate_zero, List.cons_append, List.nil_append, Nat.reduceAdd, Bool.false_eq_true, Option.map_some, ↓reduceIte, Nat.zero_add, reduceCtorEq, Bool.not_false, List.length_append]
    first | exact ⟨_, trim1 ho rfl, by simp [sameM, e], rfl⟩ | exact ⟨_, trim1 ho rfl, by simp [sameM, e]⟩ | exact ⟨_, .same, by simp [sameM, e], rfl⟩
  rcases bf (p.has == q.has) with k1 | k1
  · have e := no (by unfold samePc; simp only [k0, k1, Bool.false_and, Bool.and_false])
    simp (maxSteps := 2000000) (disch := first | omega | (simp only [List.length_append, List.length_cons, List.length_nil, List.length_map] <;> omega)) only [k0, k1, hd, z1, z2, y1, y2, sa, sb, pget0, pget1, nbS, q1, q5, u1, getA0, getA, List.append_assoc, Nat.add_zero, List.set_cons_zero, List.set_cons_succ, lpK_r, flg_bool, sk_idxB, swp_seq, swp_reg, swp_skip, swp_ret, swp_block, swp_cond, seqK_n, seqK_r, blkK_r, condK_t, evK_some, appK_eq, grd_t, srun_nil, srun_cons, stepK_grd, fin_ret, sk_mv, sk_give, sk_pick, sk_bin, sk_eqB, sk_fld, sk_load, sk_store, sk_lenL, sk_alloc, get_mk, raw_slot, raw_lit, put_some, put_none, wb_nil, ev_mv, ev_give, ev_pick, ev_eqB, ev_fld, bin_lss, ev_alloc, ev_ldP, ldP_some, ro_int, ro_bool, ro_str, List.map_cons, List.map_nil, List.getD_cons_zero, List.getD_cons_succ, List.set_cons_zero, List.set_cons_succ, List.getElem?_cons_zero, List.getElem?_cons_succ, List.length_cons, List.length_nil, List.replicate_succ, List.replicate_zero, List.cons_append, List.nil_append, Nat.reduceAdd, Bool.false_eq_true, Option.map_some, ↓reduceIte, Nat.zero_add, reduceCtorEq, Bool.not_true, Bool.not_false, List.length_append]
    first | exact ⟨_, trim1 ho rfl, by simp [sameM, e], rfl⟩ | exact ⟨_, trim1 ho rfl, by simp [sameM, e]⟩ | exact ⟨_, .same, by simp [sameM, e], rfl⟩
  rcases bf (p.size == q.size) with k2 | k2
  · have e := no (by unfold samePc; simp only [k0, k1, k2, Bool.false_and, Bool.true_and, Bool.and_false])
    simp (maxSteps := 2000000) (disch := first | omega | (simp only [List.length_append, List.length_cons, List.length_nil, List.length_map] <;> omega)) only [k0, k1, k2, hd, z1, z2, y1, y2, sa, sb, pget0, pget1, pget2, nbS, q1, q5, u1, nbI, getA0, getA, List.append_assoc, Nat.add_zero, List.set_cons_zero, List.set_cons_succ, lpK_r, flg_bool, sk_idxB, swp_seq, swp_reg, swp_skip, swp_ret, swp_block, swp_cond, seqK_n, seqK_r, blkK_r, condK_t, evK_some, appK_eq, grd_t, srun_nil, srun_cons, stepK_grd, fin_ret, sk_mv, sk_give, sk_pick, sk_bin, sk_eqB, sk_fld, sk_load, sk_store, sk_lenL, sk_alloc, get_mk, raw_slot, raw_lit, put_some, put_none, wb_nil, ev_mv, ev_give, ev_pick, ev_eqB, ev_fld, bin_neq, bin_lss, ev_alloc, ev_ldP, ldP_some, ro_int, ro_bool, ro_str, List.map_cons, List.map_nil, List.getD_cons_zero, List.getD_cons_succ, List.set_cons_zero, List.set_cons_succ, List.getElem?_cons_zero, List.getElem?_cons_succ, List.length_cons, List.length_nil, List.replicate_succ, List.replicate_zero, List.cons_append, List.nil_append, Nat.reduceAdd, Bool.false_eq_true, Option.map_some, ↓reduceIte, Nat.zero_add, reduceCtorEq, Bool.not_true, Bool.not_false, List.length_append]
    first | exact ⟨_, trim1 ho rfl, by simp [sameM, e], rfl⟩ | exact ⟨_, trim1 ho rfl, by simp [sameM, e]⟩ | exact ⟨_, .same, by simp [sameM, e], rfl⟩
  rcases bf (p.dig == q.dig) with k3 | k3
  · have e := no (by unfold samePc; simp only [k0, k1, k2, k3, Bool.false_and, Bool.true_and, Bool.and_false])
    simp (maxSteps := 2000000) (disch := first | omega | (simp only [List.length_append, List.length_cons, List.length_nil, List.length_map] <;> omega)) only [k0, k1, k2, k3, hd, z1, z2, y1, y2, sa, sb, pget0, pget1, pget2, pget4, nbS, q1, q5, u1, nbI, getA0, getA, List.append_assoc, Nat.add_zero, List.set_cons_zero, List.set_cons_succ, lpK_r, flg_bool, sk_idxB, swp_seq, swp_reg, swp_skip, swp_ret, swp_block, swp_cond, seqK_n, seqK_r, blkK_r, condK_t, evK_some, appK_eq, grd_t, srun_nil, srun_cons, stepK_grd, fin_ret, sk_mv, sk_give, sk_pick, sk_bin, sk_eqB, sk_fld, sk_load, sk_store, sk_lenL, sk_alloc, get_mk, raw_slot, raw_lit, put_some, put_none, wb_nil, ev_mv, ev_give, ev_pick, ev_eqB, ev_fld, bin_neq, bin_lss, ev_alloc, ev_ldP, ldP_some, ro_int, ro_bool, ro_str, List.map_cons, List.map_nil, List.getD_cons_zero, List.getD_cons_succ, List.set_cons_zero, List.set_cons_succ, List.getElem?_cons_zero, List.getElem?_cons_succ, List.length_cons, List.length_nil, List.replicate_succ, List.replicate_zero, List.cons_append, List.nil_append, Nat.reduceAdd, Bool.false_eq_true, Option.map_some, ↓reduceIte, Nat.zero_add, reduceCtorEq, Bool.not_true, Bool.not_false, List.length_append]
    first | exact ⟨_, trim1 ho rfl, by simp [sameM, e], rfl⟩ | exact ⟨_, trim1 ho rfl, by simp [sameM, e]⟩ | exact ⟨_, .same, by simp [sameM, e], rfl⟩
  rcases bf (p.cl == q.cl && p.cr == q.cr) with k4 | k4
  · have e := no (by unfold samePc; simp only [k0, k1, k2, k3, k4, Bool.false_and, Bool.true_and, Bool.and_false])
    simp (maxSteps := 2000000) (disch := first | omega | (simp only [List.length_append, List.length_cons, List.length_nil, List.length_map] <;> omega)) only [k0, k1, k2, k3, k4, hd, z1, z2, y1, y2, sa, sb, plen, pget0, pget1, pget2, pget4, pclk, nbS, q1, q5, u1, nbI, eq_pair, getA0, getA, ev_ldA, List.append_assoc, Nat.add_zero, List.set_cons_zero, List.set_cons_succ, lpK_r, apO_some, flg_bool, sk_idxB, swp_seq, swp_reg, swp_skip, swp_ret, swp_block, swp_cond, seqK_n, seqK_r, blkK_r, condK_t, evK_some, appK_eq, grd_t, srun_nil, srun_cons, stepK_grd, fin_ret, sk_mv, sk_give, sk_pick, sk_bin, sk_eqB, sk_eqA, sk_fld, sk_load, sk_store, sk_lenL, sk_alloc, get_mk, raw_slot, raw_lit, put_some, put_none, wb_nil, ev_mv, ev_give, ev_pick, ev_eqB, ev_fld, bin_neq, bin_lss, ev_alloc, ev_ldP, ldP_some, ro_int, ro_bool, ro_str, ro_agg, ro1_int, List.map_cons, List.map_nil, List.getD_cons_zero, List.getD_cons_succ, List.set_cons_zero, List.set_cons_succ, List.getElem?_cons_zero, List.getElem?_cons_succ, List.length_cons, List.length_nil, List.replicate_succ, List.replicate_zero, List.cons_append, List.nil_append, Nat.reduceAdd, Bool.false_eq_true, Option.map_some, ↓reduceIte, Nat.zero_add, reduceCtorEq, Bool.not_true, Bool.not_false, List.length_append, Nat.le_refl]
    first | exact ⟨_, trim1 ho rfl, by simp [sameM, e], rfl⟩ | exact ⟨_, trim1 ho rfl, by simp [sameM, e]⟩ | exact ⟨_, .same, by simp [sameM, e], rfl⟩
  simp (maxSteps := 2000000) (disch := first | omega | (simp only [List.length_append, List.length_cons, List.length_nil, List.length_map] <;> omega)) only [k0, k1, k2, k3, k4, hd, z1, z2, y1, y2, sa, sb, plen, pget0, pget1, pget2, pget3, pget4, pclk, nbS, w1, w2, w3, x1, x2, x3, q1, q5, u1, nbI, eq_pair, getA0, getA, ev_ldA, List.append_assoc, Nat.add_zero, List.set_cons_zero, List.set_cons_succ, apO_some, sk_idxB, swp_seq, swp_reg, swp_skip, swp_block, swp_cond, seqK_n, condK_t, evK_some, appK_eq, grd_t, srun_nil, srun_cons, stepK_call, stepK_grd, sk_mv, sk_pick, sk_bin, sk_eqB, sk_eqA, sk_fld, sk_load, sk_store, sk_lenL, sk_alloc, get_mk, raw_slot, raw_lit, put_some, put_none, wb_nil, ev_mv, ev_pick, ev_eqB, ev_fld, bin_neq, bin_lss, ev_alloc, ev_ldP, ldP_some, ro_int, ro_bool, ro_str, ro_agg, ro1_int, pubs, pubsFrom, List.map_cons, List.map_nil, List.getD_cons_zero, List.getD_cons_succ, List.set_cons_zero, List.set_cons_succ, List.getElem?_cons_zero, List.getElem?_cons_succ, List.length_cons, List.length_nil, List.replicate_succ, List.replicate_zero, List.cons_append, List.nil_append, Nat.reduceAdd, Bool.false_eq_true, Option.map_some, ↓reduceIte, Nat.zero_add, Bool.not_true, List.length_append, Nat.le_refl]
  refine callK_intro (r25 (RowAt.mono oa.1 _) (RowAt.mono ob.1 _) (by have := oa.2.1; omega)) ?_
  rcases bf (decide (p.ch = q.ch)) with k5 | k5
  · have e := no (by unfold samePc; simp only [k0, k1, k2, k3, k4, k5, Bool.true_and, Bool.and_false])
    rw [k5]
    simp (maxSteps := 2000000) (disch := first | omega | (simp only [List.length_append, List.length_cons, List.length_nil, List.length_map] <;> omega)) only [List.set_cons_zero, List.set_cons_succ, lpK_r, flg_bool, swp_seq, swp_reg, swp_ret, swp_cond, seqK_n, seqK_r, blkK_r, condK_t, evK_some, appK_eq, appC_eq, grd_t, srun_nil, srun_cons, stepK_grd, fin_ret, sk_give, sk_pick, sk_un, get_mk, raw_slot, raw_lit, put_some, wb_nil, ev_give, ev_pick, ev_not, ro_bool, List.map_cons, List.map_nil, List.getD_cons_zero, List.getD_cons_succ, List.set_cons_zero, List.set_cons_succ, Bool.false_eq_true, ↓reduceIte, Bool.not_false]
    first | exact ⟨_, trim1 ho rfl, by simp [sameM, e], rfl⟩ | exact ⟨_, trim1 ho rfl, by simp [sameM, e]⟩ | exact ⟨_, .same, by simp [sameM, e], rfl⟩
  have e : samePc p q = true := by unfold samePc; simp only [k0, k1, k2, k3, k4, k5, Bool.and_self]
  rw [k5]
  simp (maxSteps := 2000000) (disch := first | omega | (simp only [List.length_append, List.length_cons, List.length_nil, List.length_map] <;> omega)) only [List.set_cons_zero, List.set_cons_succ, lpK_n, flg_int, swp_reg, swp_skip, swp_cond, seqK_n, blkK_n, condK_f, evK_some, appK_eq, appC_eq, grd_t, srun_nil, srun_cons, stepK_grd, sk_mv, sk_give, sk_pick, sk_bin, sk_un, get_mk, raw_slot, raw_lit, put_some, wb_nil, ev_mv, ev_give, ev_pick, ev_not, bin_add, ro_int, ro_bool, List.map_cons, List.map_nil, List.getD_cons_zero, List.getD_cons_succ, List.set_cons_zero, List.set_cons_succ, Bool.false_eq_true, ↓reduceIte, Bool.not_true, wrap_i64]
  refine ⟨_, Forget.cutA (l := [_, _]) (x := [_, _]) ?_ (by simp) ?_ o2, ⟨i + 1, by omega, fun j p' q' hj hp' hq' => ?_, rfl⟩, by exact fin⟩
  · repeat first | exact fg_e | refine fg_d ?_ | refine fg_k rfl ?_
  · simp [idOks, idOk]
  · rcases Nat.lt_succ_iff_lt_or_eq.1 hj with h | rfl
    · exact hall j p' q' h hp' hq'
    · rw [hpa] at hp'; rw [hpb] at hq'
      obtain rfl := Option.some.inj hp'
      obtain rfl := Option.some.inj hq'
      exact e
def O103 : Orc := O102.add 18 (StC fun st args r => ∃ a b : Mf, a.ok st ∧ b.ok st ∧ okSt st ∧ args = [.agg a.cells, .agg b.cells] ∧ r = .bool (sameM a b))
theorem s103 : Sound Tryd.prog O103 := s102.addS c18 (by kernel_rfl) (by
  rintro args r st ⟨a, b, ha, hb, ho, rfl, rfl⟩
  exact ⟨by simp [sf18], g18 a b st ha hb ho⟩)
end Go.Sh.F
namespace Go.Sh.F
open Go.PathLaw Go.Proofs
/-- A piece without the value that its row is. -/
def Pc.pl (p : Pc) : Pc := { p with cv := .nilS }
def Mf.pl (m : Mf) : Mf := { m with pv := .nilS, ps := m.ps.map Pc.pl }
theorem rightP_pl (p : Pc) : rightP p.pl = rightP p := rfl
theorem rows_pl : ∀ l : List Pc, rows (l.map Pc.pl) = rows l
  | [] => rfl
  | [p] => rfl
  | p :: q :: r => by
    have := rows_pl (q :: r)
    simp only [List.map_cons] at this ⊢
    rw [rows, rows, this]; rfl
theorem rightM_pl (m : Mf) : rightM m.pl = rightM m := by
  unfold rightM Mf.pl
  simp only [rows_pl, List.length_map]
  rfl
theorem samePc_pl (p q : Pc) : samePc p.pl q.pl = samePc p q := rfl
theorem sameL_pl : ∀ a b : List Pc, sameL (a.map Pc.pl) (b.map Pc.pl) = sameL a b
  | [], [] => rfl
  | [], _ :: _ => rfl
  | _ :: _, [] => rfl
  | p :: r, q :: s => by simp only [List.map_cons, sameL, sameL_pl r s, samePc_pl]
theorem sameM_pl (a b : Mf) : sameM a.pl b.pl = sameM a b := by
  unfold sameM Mf.pl
  simp only [sameL_pl]; rfl
theorem samePc_self (p : Pc) : samePc p p = true := by simp [samePc]
theorem sameL_self : ∀ a : List Pc, sameL a a = true
  | [] => rfl
  | p :: r => by rw [sameL, samePc_self, sameL_self r]; rfl
theorem sameM_self (a : Mf) : sameM a a = true := by simp [sameM, sameH, sameL_self]
theorem samePc_eq {p q : Pc} (h : samePc p q = true) : p.pl = q.pl := by
  simp only [samePc, Bool.and_eq_true, beq_iff_eq, decide_eq_true_eq] at h
  obtain ⟨⟨⟨⟨⟨h1, h2⟩, h3⟩, h4⟩, h5, h6⟩, h7⟩ := h
  simp only [Pc.pl, h1, h2, h3, h4, h5, h6, h7]
theorem sameL_eq : ∀ {a b : List Pc}, sameL a b = true → a.map Pc.pl = b.map Pc.pl
  | [], [], _ => rfl
  | [], _ :: _, h => by simp [sameL] at h
  | _ :: _, [], h => by simp [sameL] at h
  | p :: r, q :: s, h => by
    rw [sameL, Bool.and_eq_true] at h
    rw [List.map_cons, List.map_cons, samePc_eq h.1, sameL_eq h.2]
theorem sameM_iff (a b : Mf) : sameM a b = true ↔ a.pl = b.pl := by
  constructor
  · intro h
    rw [sameM, Bool.and_eq_true] at h
    obtain ⟨h1, h2⟩ := h
    simp only [sameH, Bool.and_eq_true, beq_iff_eq] at h1
    obtain ⟨⟨⟨⟨⟨⟨k1, k2⟩, k3⟩, k4⟩, k5⟩, k6⟩, k7⟩ := h1
    simp only [Mf.pl, sameL_eq h2, k1, k2, k3, k4, k5, k6, k7]
  · intro h
    rw [← sameM_pl, h, sameM_self]
/-- The objects that copying a piece makes, and the piece's copy. -/
def cpX (p : Pc) : List Ob := match p.cv with | .nilS => [.cells p.cells] | _ => [.cells p.cells, .cells (isv p.ch)]
def cpPc (id : Nat) (p : Pc) : Pc := match p.cv with | .nilS => p | _ => { p with cv := .slo (id + 1) 0 p.ch.length }
theorem cpX_nil {p : Pc} (h : p.cv = .nilS) : cpX p = [.cells p.cells] := by unfold cpX; rw [h]
theorem cpX_not {p : Pc} (h : p.cv ≠ .nilS) : cpX p = [.cells p.cells, .cells (isv p.ch)] := by unfold cpX; cases hc : p.cv <;> first | rfl | exact absurd hc h
theorem cpPc_nil {p : Pc} (h : p.cv = .nilS) (id : Nat) : cpPc id p = p := by unfold cpPc; rw [h]
theorem cpPc_not {p : Pc} (h : p.cv ≠ .nilS) (id : Nat) : cpPc id p = { p with cv := .slo (id + 1) 0 p.ch.length } := by unfold cpPc; cases hc : p.cv <;> first | rfl | exact absurd hc h
theorem cpPc_pl (id : Nat) (p : Pc) : (cpPc id p).pl = p.pl := by
  rcases nil_or p.cv with h | h
  · rw [cpPc_nil h]
  · rw [cpPc_not h]; rfl
def cpR : Nat → List Pc → List Ob × List Pc
  | _, [] => ([], [])
  | id, p :: r => (cpX p ++ (cpR (id + (cpX p).length) r).1, cpPc id p :: (cpR (id + (cpX p).length) r).2)
theorem cpR_snoc : ∀ (l : List Pc) (id : Nat) (p : Pc), cpR id (l ++ [p]) = ((cpR id l).1 ++ cpX p, (cpR id l).2 ++ [cpPc (id + (cpR id l).1.length) p])
  | [], id, p => by simp [cpR]
  | q :: r, id, p => by
    rw [List.cons_append, cpR, cpR_snoc r]
    simp only [cpR, List.append_assoc, List.cons_append, List.length_append, Nat.add_assoc]
theorem cpR_len : ∀ (l : List Pc) (id : Nat), (cpR id l).2.length = l.length
  | [], _ => rfl
  | p :: r, id => by rw [cpR, List.length_cons, List.length_cons, cpR_len r]
theorem cpR_pl : ∀ (l : List Pc) (id : Nat), (cpR id l).2.map Pc.pl = l.map Pc.pl
  | [], _ => rfl
  | p :: r, id => by rw [cpR, List.map_cons, List.map_cons, cpPc_pl, cpR_pl r]
theorem cpPc_ok {base : List Ob} {p : Pc} (h : p.ok base) : (cpPc base.length p).ok (base ++ cpX p) := by
  rcases nil_or p.cv with hn | hn
  · rw [cpPc_nil hn]; exact h.mono _
  · rw [cpPc_not hn, cpX_not hn]
    refine ⟨⟨by rw [isv_len, Nat.mul_one], .inr (.inr ⟨base.length + 1, 0, isv p.ch, rfl, ?_, ?_, ?_⟩)⟩, h.2⟩
    · rw [getA]; rfl
    · rw [isv_len]; simp
    · rw [List.drop_zero, List.take_of_length_le (by rw [isv_len]; simp)]
theorem cpR_ok : ∀ (l : List Pc) (base : List Ob), (∀ p ∈ l, p.ok base) → ∀ q ∈ (cpR base.length l).2, q.ok (base ++ (cpR base.length l).1)
  | [], _, _, q, hq => by simp [cpR] at hq
  | p :: r, base, h, q, hq => by
    have ih := cpR_ok r (base ++ cpX p) (fun z hz => (h z (List.mem_cons_of_mem _ hz)).mono _)
    rw [List.length_append] at ih
    simp only [cpR] at hq ⊢
    rw [← List.append_assoc]
    rcases List.mem_cons.1 hq with rfl | hq
    · exact (cpPc_ok (h p List.mem_cons_self)).mono _
    · exact ih q hq
theorem cpX_obs {p : Pc} {N : Nat} (h : idOks N p.cells = true) : (cpX p).all (obOk N) = true := by
  rcases nil_or p.cv with hn | hn
  · rw [cpX_nil hn]; simp only [List.all_cons, List.all_nil, obOk, h, Bool.and_true]
  · rw [cpX_not hn]; simp only [List.all_cons, List.all_nil, obOk, h, idOks_isv, Bool.and_true]
theorem cpR_obs : ∀ (l : List Pc) (id N : Nat), (∀ p ∈ l, idOks N p.cells = true) → (cpR id l).1.all (obOk N) = true
  | [], _, _, _ => rfl
  | p :: r, id, N, h => by
    rw [cpR, List.all_append, cpX_obs (h p List.mem_cons_self), cpR_obs r _ N (fun q hq => h q (List.mem_cons_of_mem _ hq))]; rfl
/-- The row of a manifest's copy, half way: the objects ahead, and those made. -/
def cpA (st : List Ob) (m : Mf) : Mf := { m with pv := .slo (st.length + 2) 0 m.ps.length }
def cpM (st : List Ob) (m : Mf) : Mf := match m.pv with | .nilS => m | _ => { cpA st m with ps := (cpR (st.length + 3) m.ps).2 }
def cpB (st : List Ob) (m : Mf) (b : List SV) (i : Nat) : List Ob := [.cells (cpA st m).cells, .cells b, .cells (((cpR (st.length + 3) (m.ps.take i)).2 ++ m.ps.drop i).flatMap Pc.cells)] ++ (cpR (st.length + 3) (m.ps.take i)).1
def cpS (st : List Ob) (m : Mf) : List Ob := match m.pv with | .nilS => st | _ => st ++ cpB st m (cpA st m).cells m.ps.length
theorem cpM_nil {st : List Ob} {m : Mf} (h : m.pv = .nilS) : cpM st m = m := by unfold cpM; rw [h]
theorem cpS_nil {st : List Ob} {m : Mf} (h : m.pv = .nilS) : cpS st m = st := by unfold cpS; rw [h]
theorem cpM_not {st : List Ob} {m : Mf} (h : m.pv ≠ .nilS) : cpM st m = { cpA st m with ps := (cpR (st.length + 3) m.ps).2 } := by unfold cpM; cases hc : m.pv <;> first | rfl | exact absurd hc h
theorem cpS_not {st : List Ob} {m : Mf} (h : m.pv ≠ .nilS) : cpS st m = st ++ cpB st m (cpA st m).cells m.ps.length := by unfold cpS; cases hc : m.pv <;> first | rfl | exact absurd hc h
theorem cpB_all (st : List Ob) (m : Mf) (b : List SV) : cpB st m b m.ps.length = [.cells (cpA st m).cells, .cells b, .cells ((cpR (st.length + 3) m.ps).2.flatMap Pc.cells)] ++ (cpR (st.length + 3) m.ps).1 := by
  unfold cpB; rw [List.take_length, List.drop_length, List.append_nil]
theorem cpM_ok {st : List Ob} {m : Mf} (h : m.ok st) : (cpM st m).ok (cpS st m) := by
  rcases nil_or m.pv with hn | hn
  · rw [cpM_nil hn, cpS_nil hn]; exact h
  · rw [cpM_not hn, cpS_not hn, cpB_all]
    have hl := cpR_len m.ps (st.length + 3)
    refine ⟨⟨?_, .inr (.inr ⟨st.length + 2, 0, (cpR (st.length + 3) m.ps).2.flatMap Pc.cells, ?_, ?_, ?_, ?_⟩)⟩, ?_, ?_⟩
    · exact flat_len (pc_len _)
    · show SV.slo _ _ _ = _; rw [hl]
    · rw [getA]; rfl
    · rw [Nat.zero_add, flat_len (pc_len _)]; exact Nat.le_refl _
    · rw [List.drop_zero, List.take_of_length_le (by rw [flat_len (pc_len _)]; exact Nat.le_refl _)]
    · show (cpR _ _).2.length ≤ _; rw [hl]; exact h.2.1
    · intro q hq
      have := cpR_ok m.ps (st ++ [.cells (cpA st m).cells, .cells (cpA st m).cells, .cells ((cpR (st.length + 3) m.ps).2.flatMap Pc.cells)]) (fun p hp => (h.2.2 p hp).mono _) q
      rw [List.length_append, List.append_assoc] at this
      exact this hq
theorem cpS_app (st : List Ob) (m : Mf) : ∃ x, cpS st m = st ++ x := by
  rcases nil_or m.pv with hn | hn
  · exact ⟨[], by rw [cpS_nil hn, List.append_nil]⟩
  · exact ⟨_, cpS_not hn⟩
theorem cpS_okSt {st : List Ob} {m : Mf} (h : m.ok st) (ho : okSt st) : okSt (cpS st m) := by
  have hM := cpM_ok h
  rcases nil_or m.pv with hn | hn
  · rw [cpS_nil hn]; exact ho
  · have i1 := idOks_mf hM
    have i2 := idOks_flat hM.2.2
    have i3 : ∀ p ∈ m.ps, idOks (cpS st m).length p.cells = true := by
      intro p hp
      obtain ⟨x, hx⟩ := cpS_app st m
      rw [hx]; exact idOks_pc ((h.2.2 p hp).mono x)
    rw [cpM_not hn] at i1 i2
    rw [cpS_not hn, cpB_all] at i1 i2 i3 ⊢
    refine okSt_appL ho ?_
    rw [List.length_append] at i1 i2 i3
    rw [List.all_append, cpR_obs _ _ _ i3, Bool.and_true]
    simp only [List.all_cons, List.all_nil, obOk, Bool.and_true]
    rw [i2, Bool.and_true]
    change idOks _ (cpA st m).cells = true at i1
    rw [i1]; rfl
theorem cpM_pl (st : List Ob) (m : Mf) : (cpM st m).pl = m.pl := by
  rcases nil_or m.pv with hn | hn
  · rw [cpM_nil hn]
  · rw [cpM_not hn]
    unfold Mf.pl
    simp only [cpR_pl]; rfl
end Go.Sh.F
namespace Go.Sh.F
open Go.PathLaw Go.Proofs
def cpV (v : SV) (l : List Pc) : SV := match v with | .nilS => .nilS | _ => .sl (l.flatMap Pc.cells) l.length (.excl 7)
theorem cpV_not {v : SV} {l : List Pc} (h : v ≠ .nilS) : cpV v l = .sl (l.flatMap Pc.cells) l.length (.excl 7) := by cases v <;> first | rfl | exact absurd rfl h
theorem ro_flat {st : List Ob} : ∀ {l : List Pc}, (∀ p ∈ l, p.ok st) → (l.flatMap Pc.cells).map ro = l.flatMap Pc.cells
  | [], _ => rfl
  | p :: r, h => by
    have := (h p List.mem_cons_self).1.facts.1
    rw [List.flatMap_cons, List.map_append, ro_flat (fun q hq => h q (List.mem_cons_of_mem _ hq))]
    congr 1
    simp only [Pc.cells, List.map_cons, List.map_nil, this]; rfl
theorem app_pcs {st : List Ob} {m : Mf} (h : m.ok st) (hn : m.pv ≠ .nilS) {z : List SV} : ev st (.app 7 80 z) [.sl [] 0 (.excl 7), m.pv] = some (.sl (m.ps.flatMap Pc.cells) m.ps.length (.excl 7), [(0, .undef)], st) := by
  have hb := h.2.1
  have hr := ro_flat h.2.2
  obtain ⟨⟨h1, h2⟩, _, _⟩ := h
  obtain ⟨e, _⟩ | ⟨fl, h3, e⟩ | ⟨id, off, c, e, h3, h4, h5⟩ := h2
  · exact absurd e hn
  · rw [e, app_excl rfl h1 (by omega) (by omega), List.nil_append, Nat.zero_add]
  · rw [e, ev_appO, h3, apO_some, if_pos h4, h5, hr, app_excl rfl h1 (by omega) (by omega), List.nil_append, Nat.zero_add]
theorem g37 (O : Orc) (m : Mf) (st : List Ob) (h : m.ok st) : swpF O sf37 [m.pv] st (fun r st' => r = cpV m.pv m.ps ∧ st' = st) := by
  rcases nil_or m.pv with hn | hn
  · rw [hn]
    show swpF O sf37 [.nilS] st (fun r st' => r = .nilS ∧ st' = st)
    simp (maxSteps := 2000000) (disch := first | omega | (simp only [List.length_append, List.length_cons, List.length_nil, List.length_map] <;> omega)) only [sf37, List.set_cons_zero, List.set_cons_succ, flg_nilS, swp_seq, swp_reg, swp_ret, swp_cond, seqK_n, seqK_r, condK_t, evK_some, appK_eq, srun_nil, srun_cons, fin_ret, swpF_eq, sk_mv, sk_give, sk_eqN, get_mk, raw_slot, raw_lit, put_some, wb_nil, ev_mv, ev_give, ev_eqNs1, ro_nilS, List.map_cons, List.map_nil, List.getD_cons_zero, List.getD_cons_succ, List.set_cons_zero, List.set_cons_succ, List.length_cons, List.length_nil, List.replicate_succ, List.replicate_zero, List.cons_append, List.nil_append, Nat.reduceSub, true_and, Bool.false_eq_true, ↓reduceIte, Nat.zero_add]
    first | exact ⟨_, .same⟩ | exact ⟨_, .same, rfl⟩ | exact ⟨_, .same, rfl, rfl⟩
  · rw [cpV_not hn]
    obtain ⟨q1, q2, q3, q4, q6, q7⟩ := h.1.facts
    simp (maxSteps := 2000000) (disch := first | omega | (simp only [List.length_append, List.length_cons, List.length_nil, List.length_map] <;> omega)) only [sf37, eqN_row h.1 hn, app_pcs h hn, q1, List.set_cons_zero, List.set_cons_succ, flg_nilS, flg_excl, swp_seq, swp_reg, swp_skip, swp_ret, swp_cond, seqK_n, condK_f, evK_some, appK_eq, srun_nil, srun_cons, fin_ret, swpF_eq, sk_mv, sk_give, sk_eqN, sk_bsl, sk_app, get_mk, raw_slot, raw_lit, put_some, wb_nil, wb_cons, ev_mv, ev_give, ev_bsl, ro_nilS, ro_excl, pubs, pubsFrom, List.map_cons, List.map_nil, List.getD_cons_zero, List.getD_cons_succ, List.set_cons_zero, List.set_cons_succ, List.getElem?_cons_zero, List.length_cons, List.length_nil, List.replicate_succ, List.replicate_zero, List.cons_append, List.nil_append, Nat.reduceSub, true_and, and_true, Bool.false_eq_true, Option.map_some, ↓reduceIte, List.all_nil, List.zip_nil_right, rep, fillV, List.flatten_nil, Nat.zero_add]
    first | exact ⟨_, .same⟩ | exact ⟨_, .same, rfl⟩ | exact ⟨_, .same, rfl, rfl⟩
def O104 : Orc := O103.add 37 (StC fun st args r => ∃ m : Mf, m.ok st ∧ args = [m.pv] ∧ r = cpV m.pv m.ps)
theorem s104 : Sound Tryd.prog O104 := s103.addS c37 (by kernel_rfl) (by
  rintro args r st ⟨m, h, rfl, rfl⟩
  exact ⟨by simp [sf37], g37 _ m st h⟩)
theorem r38 {v : SV} {l : List Int} {st : List Ob} (hv : RowI st v l) (hl : l.length ≤ 1048576) : O104 38 [v] st (cpI v l) st := (by repeat first | exact Or.inr ⟨rfl, rfl, v, l, hv, hl, rfl, rfl⟩ | refine Or.inl ?_)
theorem r37 {m : Mf} {st : List Ob} (h : m.ok st) : O104 37 [m.pv] st (cpV m.pv m.ps) st := (by repeat first | exact Or.inr ⟨rfl, rfl, m, h, rfl, rfl⟩ | refine Or.inl ?_)
theorem cpB_zero (st : List Ob) (m : Mf) (b : List SV) : cpB st m b 0 = [.cells (cpA st m).cells, .cells b, .cells (m.ps.flatMap Pc.cells)] := by
  unfold cpB; simp [cpR]
theorem set_mid {a b c : List SV} {n k : Nat} {v : SV} (h : a.length = n) (hk : k < b.length) : (a ++ (b ++ c)).set (n + k) v = a ++ (b.set k v ++ c) := by
  subst h
  rw [List.set_append_right _ _ (by omega), Nat.add_sub_cancel_left, List.set_append_left _ _ hk]
theorem set_end' {α : Type} {X : List α} {a b : α} : (X ++ [a]).set X.length b = X ++ [b] := by simp
theorem get_end' {α : Type} {X : List α} {a : α} : (X ++ [a])[X.length]? = some a := by simp
theorem take_snoc {l : List Pc} {i : Nat} (hi : i < l.length) : l.take (i + 1) = l.take i ++ [l[i]] := (List.take_append_getElem hi).symm
theorem cpB_succ {st : List Ob} {m : Mf} {b : List SV} {i : Nat} (hi : i < m.ps.length) {X : List Ob} {L : List Pc} (e : cpR (st.length + 3) (m.ps.take i) = (X, L)) :
    cpB st m b (i + 1) = .cells (cpA st m).cells :: .cells b :: .cells ((L ++ (cpPc (st.length + 3 + X.length) m.ps[i] :: m.ps.drop (i + 1))).flatMap Pc.cells) :: (X ++ cpX m.ps[i]) := by
  unfold cpB
  rw [take_snoc hi, cpR_snoc, e]
  simp only [List.append_assoc, List.cons_append, List.nil_append]
set_option maxHeartbeats 16000000 in
set_option maxRecDepth 20000 in
theorem g24 (m : Mf) (st : List Ob) (h : m.ok st) (hc : ∀ p ∈ m.ps, p.ch.length ≤ 1048576) (ho : okSt st) : swpF O104 sf24 [.agg m.cells] st (fun r st' => r = .agg (cpM st m).cells ∧ st' = cpS st m) := by
  have hk := r37 (h.mono [.cells m.cells, .cells [.int .i64 0, .int .i64 0, .int .i64 0, .int .i64 0, .int .i64 0, .int .i64 0, .int .i64 0, .nilS]])
  obtain ⟨q1, q2, q3, q4, q6, q7⟩ := h.1.facts
  have qv := h.1.cv
  rcases nil_or m.pv with hn | hn
  · obtain ⟨au, ve, pr, ep, ne, se, sh, pv, ps⟩ := m
    obtain rfl : pv = .nilS := hn
    rw [cpM_nil rfl, cpS_nil rfl]
    simp only [Mf.cells] at hk ⊢
    have sZ := st_aggA (st := st) (l := [.cells [.int .i64 au, .int .i64 ve, .int .i64 pr, .int .i64 ep, .int .i64 ne, .int .i64 se, .int .i64 sh, .nilS], .cells [.int .i64 0, .int .i64 0, .int .i64 0, .int .i64 0, .int .i64 0, .int .i64 0, .int .i64 0, .nilS]]) (i := 1) (n := 8) (b := true) (xs := [.int .i64 au, .int .i64 ve, .int .i64 pr, .int .i64 ep, .int .i64 ne, .int .i64 se, .int .i64 sh, .nilS]) rfl rfl rfl rfl rfl
    simp (maxSteps := 2000000) (disch := first | omega | (simp only [List.length_append, List.length_cons, List.length_nil, List.length_map] <;> omega)) only [sf24, cv_agg, cell_int, cell_nilS, getA0, List.append_assoc, List.set_cons_zero, List.set_cons_succ, exc_nilS, exc_agg, swp_seq, swp_reg, seqK_n, evK_some, appK_eq, srun_nil, srun_cons, stepK_call, swpF_eq, sk_fld, sk_load, sk_box, sk_alloc, get_mk, raw_slot, put_some, wb_nil, ev_fld, ev_box, ev_alloc, ev_ldP, ldP_some, ro_nilS, ro1_int, ro1_nilS, got_nilS, got_agg, pubs, pubsFrom, List.map_cons, List.map_nil, List.getD_cons_zero, List.getD_cons_succ, List.set_cons_zero, List.set_cons_succ, List.getElem?_cons_zero, List.getElem?_cons_succ, List.length_cons, List.length_nil, List.replicate_succ, List.replicate_zero, List.cons_append, List.nil_append, Nat.reduceSub, Bool.false_eq_true, Option.map_some, ↓reduceIte, List.all_cons, List.all_nil, Bool.and_self, Nat.zero_add, List.length_append]
    refine callK_intro hk ?_
    simp (maxSteps := 2000000) (disch := first | omega | (simp only [List.length_append, List.length_cons, List.length_nil, List.length_map] <;> omega)) only [cpV, getA0, setA0, List.set_cons_zero, List.set_cons_succ, sk_storeO, ev_storeO_nil, swp_seq, swp_reg, swp_block, seqK_n, evK_some, appK_eq, appC_eq, srun_nil, srun_cons, sk_mv, sk_fld, sk_load, sk_lenL, get_mk, raw_slot, raw_lit, put_some, put_none, wb_nil, ev_mv, ev_fld, ev_lenN, ev_ldP, ldP_some, stP_some, ro_int, ro_nilS, List.map_cons, List.map_nil, List.getD_cons_zero, List.getD_cons_succ, List.set_cons_zero, List.set_cons_succ, List.getElem?_cons_zero, List.getElem?_cons_succ, List.length_cons, List.length_nil, Nat.reduceAdd, Nat.reduceLT, Option.map_some, ↓reduceIte, Nat.zero_add]
    refine swp_lp (fun S => S = ⟨[.undef, .ptr st.length 0, .ptr (st.length + 1) 0, .undef, .undef, .undef, .undef, .undef, .undef, .undef, .nilS, .int .i64 0, .int .i64 0] ++ List.replicate 14 .undef, st ++ [.cells [.int .i64 au, .int .i64 ve, .int .i64 pr, .int .i64 ep, .int .i64 ne, .int .i64 se, .int .i64 sh, .nilS], .cells [.int .i64 0, .int .i64 0, .int .i64 0, .int .i64 0, .int .i64 0, .int .i64 0, .int .i64 0, .nilS]]⟩) (fun _ => 0) ⟨[.undef, .ptr st.length 0, .ptr (st.length + 1) 0, .undef, .undef, .undef, .undef, .undef, .undef, .undef, .nilS, .int .i64 0, .int .i64 0] ++ List.replicate 14 .undef, st ++ [.cells [.int .i64 au, .int .i64 ve, .int .i64 pr, .int .i64 ep, .int .i64 ne, .int .i64 se, .int .i64 sh, .nilS], .cells [.int .i64 0, .int .i64 0, .int .i64 0, .int .i64 0, .int .i64 0, .int .i64 0, .int .i64 0, .nilS]]⟩ ?_ rfl ?_
    · refine Forget.of ?_
      repeat first | exact fg_e | refine fg_d ?_ | refine fg_k rfl ?_
    rintro S rfl
    simp (maxSteps := 2000000) (disch := first | omega | (simp only [List.length_append, List.length_cons, List.length_nil, List.length_map] <;> omega)) only [sZ, getA0, ev_ldA, List.drop_zero, List.take_succ_cons, List.take_zero, List.set_cons_zero, List.set_cons_succ, lpK_e, apO_some, swp_seq, swp_reg, swp_ret, swp_exit, swp_cond, seqK_n, seqK_e, blkK_e, condK_f, evK_some, appK_eq, srun_nil, srun_cons, sk_bin, sk_load, sk_store, get_mk, raw_slot, put_some, put_none, wb_nil, bin_lss, ro_agg, ro1_int, ro1_nilS, List.map_cons, List.map_nil, List.getD_cons_zero, List.getD_cons_succ, List.set_cons_zero, List.set_cons_succ, List.getElem?_cons_zero, List.length_cons, List.length_nil, List.replicate_succ, List.replicate_zero, List.cons_append, List.nil_append, Nat.reduceAdd, ↓reduceIte, decide_false, Nat.zero_add, Int.reduceLT, List.length_append, Nat.le_refl]
    refine ⟨_, _, retOf_cell (n := 8) (id := st.length + 1) (l := [.int .i64 au, .int .i64 ve, .int .i64 pr, .int .i64 ep, .int .i64 ne, .int .i64 se, .int .i64 sh, .nilS]) rfl (by rw [getA]; rfl) rfl rfl, trim1 ho rfl, rfl, rfl⟩
  rw [cpV_not hn] at hk
  have hb := h.2.1
  simp only [Mf.cells] at hk ⊢
  simp (maxSteps := 2000000) (disch := first | omega | (simp only [List.length_append, List.length_cons, List.length_nil, List.length_map] <;> omega)) only [sf24, q1, q2, q3, q6, q7, cv_agg, cell_int, getA0, List.append_assoc, List.set_cons_zero, List.set_cons_succ, exc_agg, swp_seq, swp_reg, seqK_n, evK_some, appK_eq, srun_nil, srun_cons, stepK_call, swpF_eq, sk_fld, sk_load, sk_box, sk_alloc, get_mk, raw_slot, put_some, wb_nil, ev_fld, ev_box, ev_alloc, ev_ldP, ldP_some, ro1_int, got_agg, pubs, pubsFrom, List.map_cons, List.map_nil, List.getD_cons_zero, List.getD_cons_succ, List.set_cons_zero, List.set_cons_succ, List.getElem?_cons_zero, List.getElem?_cons_succ, List.length_cons, List.length_nil, List.replicate_succ, List.replicate_zero, List.cons_append, List.nil_append, Nat.reduceSub, Bool.false_eq_true, Option.map_some, ↓reduceIte, List.all_cons, List.all_nil, Bool.and_self, Nat.zero_add, List.length_append]
  refine callK_intro hk ?_
  simp (maxSteps := 2000000) (disch := first | omega | (simp only [List.length_append, List.length_cons, List.length_nil, List.length_map] <;> omega)) only [getA0, setA0, List.append_assoc, List.set_cons_zero, List.set_cons_succ, sk_storeO, ev_storeO_x, ro_slo, ev_lenO, apO_some, swp_seq, swp_reg, swp_block, seqK_n, evK_some, appK_eq, appC_eq, srun_nil, srun_cons, sk_mv, sk_fld, sk_load, sk_lenL, get_mk, raw_slot, raw_lit, put_some, put_none, wb_nil, wb_cons, ev_mv, ev_fld, ev_ldP, ldP_some, ro_int, List.map_cons, List.map_nil, List.getD_cons_zero, List.getD_cons_succ, List.set_cons_zero, List.set_cons_succ, List.getElem?_cons_zero, List.getElem?_cons_succ, List.length_cons, List.length_nil, List.cons_append, List.nil_append, Nat.reduceAdd, Nat.reduceLT, Option.map_some, ↓reduceIte, Nat.zero_add, List.length_append]
  have eA : (cpA st m).cells = [.int .i64 m.au, .int .i64 m.ve, .int .i64 m.pr, .int .i64 m.ep, .int .i64 m.ne, .int .i64 m.se, .int .i64 m.sh, .slo (st.length + 2) 0 m.ps.length] := rfl
  refine swp_lp (fun S => ∃ (i : Nat), i ≤ m.ps.length ∧ S = ⟨[.undef, .ptr st.length 0, .ptr (st.length + 1) 0, .undef, .undef, .undef, .undef, .undef, .undef, .undef, .slo (st.length + 2) 0 m.ps.length, .int .i64 m.ps.length, .int .i64 i] ++ List.replicate 14 .undef, st ++ cpB st m [.int .i64 0, .int .i64 0, .int .i64 0, .int .i64 0, .int .i64 0, .int .i64 0, .int .i64 0, .nilS] i⟩)
      (fun S => match S.get 12 with | .int _ k => ((m.ps.length : Int) - k).toNat | _ => 0)
      ⟨[.undef, .ptr st.length 0, .ptr (st.length + 1) 0, .undef, .undef, .undef, .undef, .undef, .undef, .undef, .slo (st.length + 2) 0 m.ps.length, .int .i64 m.ps.length, .int .i64 0] ++ List.replicate 14 .undef, st ++ [.cells [.int .i64 m.au, .int .i64 m.ve, .int .i64 m.pr, .int .i64 m.ep, .int .i64 m.ne, .int .i64 m.se, .int .i64 m.sh, .slo (st.length + 2) 0 m.ps.length], .cells [.int .i64 0, .int .i64 0, .int .i64 0, .int .i64 0, .int .i64 0, .int .i64 0, .int .i64 0, .nilS], .cells (m.ps.flatMap Pc.cells)]⟩ ?_ ⟨0, Nat.zero_le _, by rw [cpB_zero, eA]; rfl⟩ ?_
  · refine Forget.of ?_
    repeat first | exact fg_e | refine fg_d ?_ | refine fg_k rfl ?_
  rintro S ⟨i, hi, rfl⟩
  by_cases him : i = m.ps.length
  · have hd : decide ((i : Int) < (m.ps.length : Int)) = false := by rw [decide_eq_false_iff_not]; omega
    rw [him] at hd
    subst him
    rw [cpM_not hn, cpS_not hn, cpB_all, cpB_all, eA]
    have sZ := fun w X => st_aggA (st := st) (l := .cells [.int .i64 m.au, .int .i64 m.ve, .int .i64 m.pr, .int .i64 m.ep, .int .i64 m.ne, .int .i64 m.se, .int .i64 m.sh, .slo (st.length + 2) 0 m.ps.length] :: .cells [.int .i64 0, .int .i64 0, .int .i64 0, .int .i64 0, .int .i64 0, .int .i64 0, .int .i64 0, .nilS] :: w :: X) (i := 1) (n := 8) (b := true) (xs := [.int .i64 m.au, .int .i64 m.ve, .int .i64 m.pr, .int .i64 m.ep, .int .i64 m.ne, .int .i64 m.se, .int .i64 m.sh, .slo (st.length + 2) 0 m.ps.length]) rfl rfl rfl rfl rfl
    simp (maxSteps := 2000000) (disch := first | omega | (simp only [List.length_append, List.length_cons, List.length_nil, List.length_map] <;> omega)) only [hd, sZ, getA0, ev_ldA, List.drop_zero, List.take_succ_cons, List.take_zero, List.set_cons_zero, List.set_cons_succ, lpK_e, ro1_slo, apO_some, swp_seq, swp_reg, swp_ret, swp_exit, swp_cond, seqK_n, seqK_e, blkK_e, condK_f, evK_some, appK_eq, srun_nil, srun_cons, sk_bin, sk_load, sk_store, get_mk, raw_slot, put_some, put_none, wb_nil, bin_lss, ro_agg, ro1_int, List.map_cons, List.map_nil, List.getD_cons_zero, List.getD_cons_succ, List.set_cons_zero, List.set_cons_succ, List.getElem?_cons_zero, List.length_cons, List.length_nil, List.replicate_succ, List.replicate_zero, List.cons_append, List.nil_append, Nat.reduceAdd, ↓reduceIte, Nat.zero_add, List.length_append, Nat.le_refl]
    refine ⟨_, _, retOf_cell (n := 8) (id := st.length + 1) (l := [.int .i64 m.au, .int .i64 m.ve, .int .i64 m.pr, .int .i64 m.ep, .int .i64 m.ne, .int .i64 m.se, .int .i64 m.sh, .slo (st.length + 2) 0 m.ps.length]) rfl (by rw [getA]; rfl) rfl rfl, .same, rfl, rfl⟩
  have hd : decide ((i : Int) < (m.ps.length : Int)) = true := by rw [decide_eq_true_eq]; omega
  have hil : i < m.ps.length := by omega
  have fin : ((m.ps.length : Int) - ((i + 1 : Nat) : Int)).toNat < ((m.ps.length : Int) - (i : Int)).toNat := by omega
  obtain ⟨X, L, eR⟩ : ∃ X L, cpR (st.length + 3) (m.ps.take i) = (X, L) := ⟨_, _, rfl⟩
  have hL : L.length = i := by
    have := cpR_len (m.ps.take i) (st.length + 3)
    rw [eR, List.length_take] at this; simp only at this; omega
  have hnext := cpB_succ (b := [.int .i64 0, .int .i64 0, .int .i64 0, .int .i64 0, .int .i64 0, .int .i64 0, .int .i64 0, .nilS]) hil eR
  have hcur : cpB st m [.int .i64 0, .int .i64 0, .int .i64 0, .int .i64 0, .int .i64 0, .int .i64 0, .int .i64 0, .nilS] i = .cells [.int .i64 m.au, .int .i64 m.ve, .int .i64 m.pr, .int .i64 m.ep, .int .i64 m.ne, .int .i64 m.se, .int .i64 m.sh, .slo (st.length + 2) 0 m.ps.length] :: .cells [.int .i64 0, .int .i64 0, .int .i64 0, .int .i64 0, .int .i64 0, .int .i64 0, .int .i64 0, .nilS] :: .cells ((L ++ m.ps.drop i).flatMap Pc.cells) :: X := by
    unfold cpB; rw [eR]; rfl
  rw [eA] at hnext
  have oa := h.2.2 _ (List.getElem_mem hil)
  have hch := hc _ (List.getElem_mem hil)
  have hdrop := List.drop_eq_getElem_cons hil
  obtain ⟨p, ep⟩ : ∃ p, m.ps[i] = p := ⟨_, rfl⟩
  rw [ep] at hnext oa hch hdrop
  rw [hdrop] at hcur
  have hLf : (L.flatMap Pc.cells).length = i * 7 := by rw [flat_len (pc_len _), hL]
  have eF : (L ++ p :: m.ps.drop (i + 1)).flatMap Pc.cells = L.flatMap Pc.cells ++ (p.cells ++ (m.ps.drop (i + 1)).flatMap Pc.cells) := by rw [List.flatMap_append, List.flatMap_cons]
  have hset : ∀ v : SV, ((L ++ p :: m.ps.drop (i + 1)).flatMap Pc.cells).set (i * 7 + 3) v = (L ++ { p with cv := v } :: m.ps.drop (i + 1)).flatMap Pc.cells := by
    intro v
    rw [eF, set_mid hLf (by show 3 < 7; omega), List.flatMap_append, List.flatMap_cons]; rfl
  have hpart : List.take 7 (List.drop (i * 7) ((L ++ p :: m.ps.drop (i + 1)).flatMap Pc.cells)) = p.cells := by
    rw [eF, List.drop_append_of_le_length (by omega), List.drop_of_length_le (by omega), List.nil_append, List.take_append_of_le_length (by show 7 ≤ 7; omega), ptake]
  have hlen : i * 7 + 7 ≤ ((L ++ p :: m.ps.drop (i + 1)).flatMap Pc.cells).length := by
    rw [eF, List.length_append, List.length_append, hLf]; show i * 7 + 7 ≤ i * 7 + (7 + _); omega
  have hlt : i * 7 + 3 < ((L ++ p :: m.ps.drop (i + 1)).flatMap Pc.cells).length := by omega
  have m1 := ro1_pc oa
  have m2 := ro_pc oa
  obtain ⟨w1, w2, w3, w4, w6, w7⟩ := oa.1.facts
  have wv := oa.1.cv
  have cell := cell_pc oa
  obtain ⟨F, efF⟩ : ∃ F, (L ++ p :: m.ps.drop (i + 1)).flatMap Pc.cells = F := ⟨_, rfl⟩
  rw [efF] at hset hpart hlen hlt hcur
  have sP := st_aggA (st := st) (l := .cells [.int .i64 m.au, .int .i64 m.ve, .int .i64 m.pr, .int .i64 m.ep, .int .i64 m.ne, .int .i64 m.se, .int .i64 m.sh, .slo (st.length + 2) 0 m.ps.length] :: .cells [.int .i64 0, .int .i64 0, .int .i64 0, .int .i64 0, .int .i64 0, .int .i64 0, .int .i64 0, .nilS] :: .cells F :: (X ++ [.cells [.str [], .bool false, .int .i64 0, .nilS, .int .i64 0, .int .i64 0, .int .i64 0]])) (i := X.length + 1 + 1 + 1) (n := 7) (b := true) (xs := p.cells) (c := [.str [], .bool false, .int .i64 0, .nilS, .int .i64 0, .int .i64 0, .int .i64 0]) (by simp) m1 cell rfl rfl
  simp only [List.set_cons_succ, set_end'] at sP
  rw [hcur]
  rcases nil_or p.cv with hpn | hpn
  · have e38 : ∀ x, O104 38 [p.cv] (st ++ x) .nilS (st ++ x) := fun x => by
      have := r38 (RowAt.mono oa.1 x) hch
      rw [hpn] at this ⊢; exact this
    have hs0 : F.set (i * 7 + 3) .nilS = F := by
      rw [hset, ← efF, ← hpn]
    have hn2 := hnext
    rw [cpPc_nil hpn, cpX_nil hpn, efF] at hn2
    simp (maxSteps := 2000000) (disch := first | omega | (simp only [List.length_append, List.length_cons, List.length_nil, List.length_map] <;> omega)) only [hd, hpart, hlen, m1, sP, getA0, getA, ev_ldA, List.append_assoc, List.set_cons_zero, List.set_cons_succ, Int.toNat_natCast, apO_some, exc_int, sk_idxB, idxB_O, swp_seq, swp_reg, swp_skip, swp_block, swp_cond, seqK_n, condK_t, evK_some, appK_eq, srun_nil, srun_cons, sk_mv, sk_take, sk_bin, sk_fld, sk_load, sk_store, sk_alloc, get_mk, raw_slot, put_some, put_none, wb_nil, ev_mv, ev_take, ev_fld, bin_lss, ev_alloc, ev_ldP, ldP_some, ro_int, ro_agg, got_int, List.map_cons, List.map_nil, List.getD_cons_zero, List.getD_cons_succ, List.set_cons_zero, List.set_cons_succ, List.getElem?_cons_zero, List.getElem?_cons_succ, List.length_cons, List.length_nil, List.replicate_succ, List.replicate_zero, List.cons_append, List.nil_append, Nat.reduceAdd, Bool.false_eq_true, ↓reduceIte, Nat.zero_add, List.length_append]
    simp (maxSteps := 2000000) (disch := first | omega | (simp only [List.length_append, List.length_cons, List.length_nil, List.length_map] <;> omega)) only [pget3, w1, List.set_cons_zero, List.set_cons_succ, seqK_n, evK_some, appK_eq, srun_nil, put_some, wb_nil, List.set_cons_zero, List.set_cons_succ, Option.map_some]
    apply swp_to
    · repeat' first
        | exact swp_ttI
        | refine swp_bothI ?_ ?_
        | refine callK_intro (e38 _) ?_
        | exact ⟨rfl, rfl⟩
        | exact rfl
        | simp (maxSteps := 2000000) (disch := first | omega | (simp only [List.length_append, List.length_cons, List.length_nil, List.length_map] <;> omega)) only [hlt, hs0, w2, w3, getA0, getA, setA, List.set_cons_zero, List.set_cons_succ, Int.toNat_natCast, sk_storeO, ev_storeO_nil, ro_slo, ev_idxO, swp_reg, evK_some, appK_eq, appC_eq, srun_nil, srun_cons, stepK_call, sk_fld, sk_idxA, sk_load, get_mk, raw_slot, put_some, put_none, wb_nil, ev_fld, ev_ldP, ldP_some, stP_some, pubs, pubsFrom, List.map_cons, List.map_nil, List.getD_cons_zero, List.getD_cons_succ, List.set_cons_zero, List.set_cons_succ, List.getElem?_cons_zero, List.getElem?_cons_succ, true_and, Bool.false_eq_true, Option.map_some, ↓reduceIte, Nat.zero_add]
    simp (maxSteps := 2000000) (disch := first | omega | (simp only [List.length_append, List.length_cons, List.length_nil, List.length_map] <;> omega)) only [List.set_cons_zero, List.set_cons_succ, lpK_n, swp_reg, seqK_n, blkK_n, evK_some, appK_eq, srun_nil, srun_cons, sk_mv, sk_bin, get_mk, raw_slot, raw_lit, put_some, wb_nil, ev_mv, bin_add, ro_int, List.map_cons, List.map_nil, List.getD_cons_zero, List.getD_cons_succ, List.set_cons_zero, List.set_cons_succ, wrap_i64]
    refine ⟨_, ?_, ⟨i + 1, by omega, rfl⟩, by exact fin⟩
    rw [hn2]
    refine Forget.of ?_
    repeat first | exact fg_e | refine fg_d ?_ | refine fg_k rfl ?_
  · have e38 : ∀ x, O104 38 [p.cv] (st ++ x) (.sl (isv p.ch) p.ch.length (.excl 1)) (st ++ x) := fun x => by
      have := r38 (RowAt.mono oa.1 x) hch
      rw [cpI_not hpn] at this; exact this
    have hn2 := hnext
    rw [cpPc_not hpn, cpX_not hpn, ← hset] at hn2
    have hid : st.length + 3 + X.length + 1 = st.length + (X.length + 1 + 1 + 1 + 1) := by omega
    rw [hid] at hn2
    simp (maxSteps := 2000000) (disch := first | omega | (simp only [List.length_append, List.length_cons, List.length_nil, List.length_map] <;> omega)) only [hd, hpart, hlen, m1, sP, getA0, getA, ev_ldA, List.append_assoc, List.set_cons_zero, List.set_cons_succ, Int.toNat_natCast, apO_some, exc_int, sk_idxB, idxB_O, swp_seq, swp_reg, swp_skip, swp_block, swp_cond, seqK_n, condK_t, evK_some, appK_eq, srun_nil, srun_cons, sk_mv, sk_take, sk_bin, sk_fld, sk_load, sk_store, sk_alloc, get_mk, raw_slot, put_some, put_none, wb_nil, ev_mv, ev_take, ev_fld, bin_lss, ev_alloc, ev_ldP, ldP_some, ro_int, ro_agg, got_int, List.map_cons, List.map_nil, List.getD_cons_zero, List.getD_cons_succ, List.set_cons_zero, List.set_cons_succ, List.getElem?_cons_zero, List.getElem?_cons_succ, List.length_cons, List.length_nil, List.replicate_succ, List.replicate_zero, List.cons_append, List.nil_append, Nat.reduceAdd, Bool.false_eq_true, ↓reduceIte, Nat.zero_add, List.length_append]
    simp (maxSteps := 2000000) (disch := first | omega | (simp only [List.length_append, List.length_cons, List.length_nil, List.length_map] <;> omega)) only [pget3, w1, List.set_cons_zero, List.set_cons_succ, seqK_n, evK_some, appK_eq, srun_nil, put_some, wb_nil, List.set_cons_zero, List.set_cons_succ, Option.map_some]
    apply swp_to
    · repeat' first
        | exact swp_ttI
        | refine swp_bothI ?_ ?_
        | refine callK_intro (e38 _) ?_
        | exact ⟨rfl, rfl⟩
        | exact rfl
        | simp (maxSteps := 2000000) (disch := first | omega | (simp only [List.length_append, List.length_cons, List.length_nil, List.length_map] <;> omega)) only [hlt, w2, w3, getA0, getA, setA, List.append_assoc, List.set_cons_zero, List.set_cons_succ, Int.toNat_natCast, sk_storeO, ev_storeO_x, ro_slo, ev_idxO, apO_some, swp_reg, evK_some, appK_eq, appC_eq, srun_nil, srun_cons, stepK_call, sk_fld, sk_idxA, sk_load, get_mk, raw_slot, put_some, put_none, wb_nil, wb_cons, ev_fld, ev_ldP, ldP_some, pubs, pubsFrom, List.map_cons, List.map_nil, List.getD_cons_zero, List.getD_cons_succ, List.set_cons_zero, List.set_cons_succ, List.getElem?_cons_zero, List.getElem?_cons_succ, List.length_cons, List.length_nil, List.cons_append, List.nil_append, true_and, Bool.false_eq_true, Option.map_some, ↓reduceIte, Nat.zero_add, List.length_append]
    simp (maxSteps := 2000000) (disch := first | omega | (simp only [List.length_append, List.length_cons, List.length_nil, List.length_map] <;> omega)) only [List.set_cons_zero, List.set_cons_succ, lpK_n, swp_reg, seqK_n, blkK_n, evK_some, appK_eq, srun_nil, srun_cons, sk_mv, sk_bin, get_mk, raw_slot, raw_lit, put_some, wb_nil, ev_mv, bin_add, ro_int, List.map_cons, List.map_nil, List.getD_cons_zero, List.getD_cons_succ, List.set_cons_zero, List.set_cons_succ, wrap_i64]
    refine ⟨_, ?_, ⟨i + 1, by omega, rfl⟩, by exact fin⟩
    rw [hn2]
    refine Forget.of ?_
    repeat first | exact fg_e | refine fg_d ?_ | refine fg_k rfl ?_
def KCopy : List SV → List Ob → SV → List Ob → Prop := fun args st r st' => ∃ m : Mf, m.ok st ∧ (∀ p ∈ m.ps, p.ch.length ≤ 1048576) ∧ okSt st ∧ args = [.agg m.cells] ∧ r = .agg (cpM st m).cells ∧ st' = cpS st m
def O105 : Orc := O104.add 24 KCopy
theorem s105 : Sound Tryd.prog O105 := s104.add c24 (by kernel_rfl) (by
  rintro args st r st' ⟨m, h, hc, ho, rfl, rfl, rfl⟩
  exact ⟨by simp [sf24], g24 m st h hc ho⟩)
end Go.Sh.F
