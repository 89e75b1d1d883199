/-
  Chains: rows of manifests; few; Follow, in the shadow machine.
  Chains: the law's small case, in the shadow machine.
-/
import Derived.Test.YtdoncjpkmjganaaDoorGa2
set_option linter.unusedSimpArgs false
set_option linter.unusedVariables false
namespace Go.Sh.F
open Go.PathLaw Go.Proofs
theorem mf_len (l : List Mf) : ∀ z ∈ l, (Mf.cells z).length = 8 := fun _ _ => rfl
def RowM (st : List Ob) (v : SV) (l : List Mf) : Prop := RowAt st v 8 l.length (l.flatMap Mf.cells) ∧ l.length ≤ 268435456 ∧ ∀ m ∈ l, m.ok st ∧ m.fit
theorem RowM.mono {st : List Ob} {v : SV} {l : List Mf} (h : RowM st v l) (x : List Ob) : RowM (st ++ x) v l := ⟨RowAt.mono h.1 x, h.2.1, fun m hm => ⟨(h.2.2 m hm).1.mono x, (h.2.2 m hm).2⟩⟩
theorem ro1_mf {st : List Ob} {m : Mf} (h : m.ok st) : m.cells.map ro1 = m.cells := by
  obtain ⟨q1, q2, q3, q4, q6, q7⟩ := h.1.facts
  simp only [Mf.cells, List.map_cons, List.map_nil, ro1_int, q6]
theorem cell_mf {st : List Ob} {m : Mf} (h : m.ok st) : m.cells.all isCell = true := by
  obtain ⟨q1, q2, q3, q4, q6, q7⟩ := h.1.facts
  simp only [Mf.cells, List.all_cons, List.all_nil, cell_int, q7, Bool.and_self]
theorem ro_mf {st : List Ob} {m : Mf} (h : m.ok st) : ro (.agg m.cells) = .agg m.cells := by rw [ro_agg, ro1_mf h]
theorem RowM.at' {st : List Ob} {v : SV} {l : List Mf} (h : RowM st v l) {i : Nat} (hi : i < l.length) (x : List Ob) :
    ev (st ++ x) (.load 8 true) [adr v (i * 8)] = some (.agg l[i].cells, [], st ++ x) := by
  rw [h.1.ldN (by omega) (by omega) x, flat_part (mf_len _) (List.getElem?_eq_getElem hi), ro_mf (h.2.2 _ (List.getElem_mem hi)).1]
theorem RowM.at0 {st : List Ob} {v : SV} {l : List Mf} (h : RowM st v l) {i : Nat} (hi : i < l.length) :
    ev st (.load 8 true) [adr v (i * 8)] = some (.agg l[i].cells, [], st) := by
  have := h.at' hi []
  rwa [List.append_nil] at this
theorem RowM.fl {st : List Ob} {v : SV} {l : List Mf} (h : RowM st v l) {i : Nat} (hi : i < l.length) {j : Nat} {c : SV} (hj : l[i].cells[j]? = some c) (hc : ro c = c) (x : List Ob) :
    ev (st ++ x) (.load 1 false) [adr v (i * 8 + j)] = some (c, [], st ++ x) := by
  have h8 : j < 8 := (List.getElem?_eq_some_iff.1 hj).1
  have := flat_get (mf_len l) (j := j) (List.getElem?_eq_getElem hi) h8
  rw [h.1.ld1 (this.trans hj) x, hc]
theorem idOks_flatM {st : List Ob} {l : List Mf} (h : ∀ p ∈ l, p.ok st ∧ p.fit) : idOks st.length (l.flatMap Mf.cells) = true := by
  induction l with
  | nil => rfl
  | cons p l ih =>
    rw [List.flatMap_cons, idOks_app, idOks_mf (h p List.mem_cons_self).1, ih (fun q hq => h q (List.mem_cons_of_mem _ hq))]; rfl
theorem RowM.idp {st : List Ob} {v : SV} {l : List Mf} (h : RowM st v l) (n : Nat) : idOk (st.length + n) v = true := idOk_mono (Nat.le_add_right _ _) _ (h.1.idOk (idOks_flatM h.2.2))
theorem RowI.idp {st : List Ob} {v : SV} {l : List Int} (h : RowI st v l) (n : Nat) : idOk (st.length + n) v = true := idOk_mono (Nat.le_add_right _ _) _ (RowI.idOk h)
def fewL (l : List Mf) : Bool := l.all fewM && decide (l.length ≤ 20)
theorem mall_iff {l : List Mf} {p : Mf → Bool} : l.all p = true ↔ ∀ (j : Nat) (x : Mf), l[j]? = some x → p x = true := by
  rw [List.all_eq_true]
  constructor
  · intro h j x hx
    exact h x (List.mem_of_getElem? hx)
  · intro h x hx
    obtain ⟨j, hj⟩ := List.getElem?_of_mem hx
    exact h j x hj
theorem r20 {m : Mf} {st : List Ob} (h1 : m.ok st) (h3 : okSt st) : O51 20 [.agg m.cells] st (.bool (fewM m)) st := (by repeat first | exact Or.inr ⟨rfl, rfl, m, h1, h3, rfl, rfl⟩ | refine Or.inl ?_)
set_option maxHeartbeats 4000000 in
theorem g10 (v : SV) (l : List Mf) (st : List Ob) (hv : RowM st v l) (ho : okSt st) : swpF O51 sf10 [v] st (fun r st' => r = .bool (fewL l) ∧ st' = st) := by
  obtain ⟨q1, q2, q3, q4, q6, q7⟩ := hv.1.facts
  have q5 := hv.1.lenL
  have hb := hv.2.1
  simp (maxSteps := 2000000) (disch := first | omega | (simp only [List.length_append, List.length_cons, List.length_nil, List.length_map] <;> omega)) only [sf10, List.set_cons_zero, List.set_cons_succ, flg_bool, exc_int, swp_seq, swp_reg, swp_block, seqK_n, evK_some, appK_eq, srun_nil, srun_cons, swpF_eq, sk_take, sk_give, raw_lit, put_some, wb_nil, ev_take, ev_give, ro_bool, got_int, List.map_cons, List.map_nil, List.set_cons_zero, List.set_cons_succ, List.length_cons, List.length_nil, List.replicate_succ, List.replicate_zero, List.cons_append, List.nil_append, Nat.reduceSub, Bool.false_eq_true, ↓reduceIte, Nat.zero_add]
  refine swp_lp (fun S => ∃ (i : Nat), i ≤ l.length ∧ (l.take i).all fewM = true ∧
      S = ⟨[v, .undef, .undef, .int .i64 i] ++ List.replicate 17 .undef, st⟩)
      (fun S => match S.get 3 with | .int _ k => ((l.length : Int) - k).toNat | _ => 0)
      ⟨[v, .undef, .undef, .int .i64 0] ++ List.replicate 17 .undef, st⟩ ?_ ⟨0, Nat.zero_le _, rfl, rfl⟩ ?_
  · refine Forget.of ?_
    repeat first | exact fg_e | refine fg_d ?_ | refine fg_k rfl ?_
  rintro S ⟨i, hi, hall, rfl⟩
  by_cases him : i = l.length
  · have hd : decide ((i : Int) < (l.length : Int)) = false := by rw [decide_eq_false_iff_not]; omega
    rw [him, List.take_length] at hall
    simp (maxSteps := 2000000) (disch := first | omega | (simp only [List.length_append, List.length_cons, List.length_nil, List.length_map] <;> omega)) only [hd, q1, q5, List.set_cons_zero, List.set_cons_succ, lpK_e, flg_bool, swp_seq, swp_reg, swp_ret, swp_exit, swp_cond, seqK_n, seqK_e, blkK_e, condK_f, evK_some, appK_eq, srun_nil, srun_cons, fin_ret, sk_mv, sk_give, sk_bin, sk_lenL, get_mk, raw_slot, raw_lit, put_some, wb_nil, ev_mv, ev_give, bin_lss, bin_leq, ro_int, ro_bool, List.map_cons, List.map_nil, List.getD_cons_zero, List.getD_cons_succ, List.set_cons_zero, List.set_cons_succ, List.replicate_succ, List.replicate_zero, List.cons_append, List.nil_append, Bool.false_eq_true, ↓reduceIte]
    exact ⟨_, .same, by simp [fewL, hall]; omega, rfl⟩
  have hd : decide ((i : Int) < (l.length : Int)) = true := by rw [decide_eq_true_eq]; omega
  have hil : i < l.length := by omega
  have fin : ((l.length : Int) - ((i + 1 : Nat) : Int)).toNat < ((l.length : Int) - (i : Int)).toNat := by omega
  have z1 := hv.1.idxB hil .i64
  have z2 := hv.at0 hil
  simp (maxSteps := 2000000) (disch := first | omega | (simp only [List.length_append, List.length_cons, List.length_nil, List.length_map] <;> omega)) only [hd, z1, z2, ro_mf (hv.2.2 _ (List.getElem_mem hil)).1, q1, q5, ro1_mf (hv.2.2 _ (List.getElem_mem hil)).1, List.set_cons_zero, List.set_cons_succ, exc_agg, sk_idxB, swp_seq, swp_reg, swp_skip, swp_block, swp_cond, seqK_n, condK_t, evK_some, appK_eq, srun_nil, srun_cons, stepK_call, sk_mv, sk_bin, sk_load, sk_lenL, get_mk, raw_slot, put_some, wb_nil, ev_mv, bin_lss, ro_int, got_agg, pubs, pubsFrom, List.map_cons, List.map_nil, List.getD_cons_zero, List.getD_cons_succ, List.set_cons_zero, List.set_cons_succ, List.replicate_succ, List.replicate_zero, List.cons_append, List.nil_append, Bool.false_eq_true, ↓reduceIte]
  refine callK_intro (r20 (hv.2.2 _ (List.getElem_mem hil)).1 ho) ?_
  rcases bf (fewM l[i]) with e1 | e1
  · have er : l.all fewM = false := by
      rw [Bool.eq_false_iff]; intro h
      rw [mall_iff] at h
      rw [h i _ (List.getElem?_eq_getElem hil)] at e1; cases e1
    rw [e1]
    simp (maxSteps := 2000000) (disch := first | omega | (simp only [List.length_append, List.length_cons, List.length_nil, List.length_map] <;> omega)) only [List.set_cons_zero, List.set_cons_succ, lpK_r, flg_bool, swp_seq, swp_reg, swp_ret, swp_cond, seqK_n, seqK_r, blkK_r, condK_t, evK_some, appK_eq, appC_eq, srun_nil, srun_cons, fin_ret, sk_mv, sk_give, sk_un, get_mk, raw_slot, raw_lit, put_some, wb_nil, ev_mv, ev_give, ev_not, ro_bool, List.map_cons, List.map_nil, List.getD_cons_zero, List.getD_cons_succ, List.set_cons_zero, List.set_cons_succ, Bool.false_eq_true, ↓reduceIte, Bool.not_false]
    exact ⟨_, .same, by simp [fewL, er], rfl⟩
  · rw [e1]
    simp (maxSteps := 2000000) (disch := first | omega | (simp only [List.length_append, List.length_cons, List.length_nil, List.length_map] <;> omega)) only [List.set_cons_zero, List.set_cons_succ, lpK_n, flg_bool, flg_int, swp_seq, swp_reg, swp_skip, swp_cond, seqK_n, blkK_n, condK_f, evK_some, appK_eq, appC_eq, srun_nil, srun_cons, sk_mv, sk_give, sk_bin, sk_un, get_mk, raw_slot, raw_lit, put_some, wb_nil, ev_mv, ev_give, ev_not, bin_add, ro_int, ro_bool, List.map_cons, List.map_nil, List.getD_cons_zero, List.getD_cons_succ, List.set_cons_zero, List.set_cons_succ, Bool.false_eq_true, ↓reduceIte, Bool.not_true, wrap_i64]
    refine ⟨_, ?_, ⟨i + 1, by omega, by rw [← List.take_append_getElem hil, List.all_append, hall]; simp [e1], rfl⟩, by exact fin⟩
    refine Forget.of ?_
    repeat first | exact fg_e | refine fg_d ?_ | refine fg_k rfl ?_
def O52 : Orc := O51.add 10 (StC fun st args r => ∃ (v : SV) (l : List Mf), RowM st v l ∧ okSt st ∧ args = [v] ∧ r = .bool (fewL l))
theorem s52 : Sound Tryd.prog O52 := s51.addS c10 (by kernel_rfl) (by
  rintro args r st ⟨v, l, hv, ho, rfl, rfl⟩
  exact ⟨by simp [sf10], g10 v l st hv ho⟩)
/-- The cursor behind many. -/
def folF (au : Int) (own : List Int) : Cu → List Mf → List Int → Nat → Cu × Int × Int
  | c, [], _, k => (c, k, 0)
  | c, m :: r, hs, k => if accE c au m own = 0 then folF au own (accC c au m (hs.headD 0) own) r hs.tail (k + 1) else (c, k, accE c au m own)
theorem folF_at {au : Int} {own : List Int} {c : Cu} {l : List Mf} {hs : List Int} {i : Nat} (hi : i < l.length) :
    folF au own c (l.drop i) (hs.drop i) i = if accE c au l[i] own = 0 then folF au own (accC c au l[i] (hs.getD i 0) own) (l.drop (i + 1)) (hs.drop (i + 1)) (i + 1) else (c, i, accE c au l[i] own) := by
  rw [List.drop_eq_getElem_cons hi, folF, List.tail_drop]
  congr 3
  rw [List.headD_eq_head?_getD, List.head?_drop, List.getD_eq_getElem?_getD]
theorem retOf_cell3 {p n id t u : Nat} {s : S} {l : List SV} {r : SV} (h : s.get p = .ptr id 0) (h1 : s.st[id]? = some (.cells l)) (hn : n = l.length) (hr : ro (.agg l) = r) : retOf [.cell p n true, .tmp t, .tmp u] s = some (.tup [r, s.get t, s.get u]) := by
  have := retOf_cell h h1 hn hr
  show (List.mapM (retV s) [.cell p n true, .tmp t, .tmp u]).map SV.tup = _
  have e : retV s (.cell p n true) = some r := this
  rw [List.mapM_cons, List.mapM_cons, List.mapM_cons, e]; rfl
theorem fn_fol {st : List Ob} {c : Cu} {k e : Int} {s : S} {p t u : Nat} {x : List Ob} (h0 : s.st = st ++ x) (ho : okSt st) (h : s.get p = .ptr (st.length + 1) 0) (h1 : x[1]? = some (.cells c.cells)) (h2 : s.get t = .int .i64 k) (h3 : s.get u = .int .i64 e) {R : Cu × Int × Int} (he : R = (c, k, e)) :
    ∃ r st', retOf [.cell p 4 true, .tmp t, .tmp u] s = some r ∧ Trim st.length s.st st' [r] ∧ (r = .tup [.agg R.1.cells, .int .i64 R.2.1, .int .i64 R.2.2] ∧ st' = st) := by
  subst he
  refine ⟨.tup [.agg c.cells, .int .i64 k, .int .i64 e], st, ?_, ?_, rfl, rfl⟩
  · rw [retOf_cell3 (n := 4) (t := t) (u := u) (id := st.length + 1) (l := c.cells) (r := .agg c.cells) h (by rw [h0, getA]; exact h1) rfl rfl, h2, h3]
  · rw [h0]; exact trim1 ho rfl
theorem acc_tup (c : Cu) : SV.agg c.cells = .agg [.int .i64 c.ve, .int .i64 c.he, .int .i64 c.ep, .int .i64 c.ak] := rfl
def KFol : List Ob → List SV → SV → Prop := fun st args r => ∃ (c : Cu) (au : Int) (v : SV) (l : List Mf) (hv : SV) (hs : List Int) (ov : SV) (own : List Int), RowM st v l ∧ RowI st hv hs ∧ hs.length ≤ 1099511627776 ∧ RowI st ov own ∧ own.length ≤ 1099511627776 ∧ okSt st ∧
  args = [.agg c.cells, .int .i64 au, v, hv, ov] ∧ r = .tup [.agg (folF au own c l hs 0).1.cells, .int .i64 (folF au own c l hs 0).2.1, .int .i64 (folF au own c l hs 0).2.2]
theorem r11 {c : Cu} {au : Int} {m : Mf} {head : Int} {v : SV} {own : List Int} {st : List Ob} (h1 : m.ok st) (h2 : m.fit) (h3 : RowI st v own) (h4 : own.length ≤ 1099511627776) (h5 : okSt st) :
    O52 11 [.agg c.cells, .int .i64 au, .agg m.cells, .int .i64 head, v] st (.tup [.agg (accC c au m head own).cells, .int .i64 (accE c au m own)]) st := (by repeat first | exact Or.inr ⟨rfl, rfl, c, au, m, head, v, own, h1, h2, h3, h4, h5, rfl, rfl⟩ | refine Or.inl ?_)
theorem r12 {c : Cu} {au : Int} {m : Mf} {head : Int} {v : SV} {own : List Int} {st : List Ob} (h1 : m.ok st) (h2 : m.fit) (h3 : RowI st v own) (h4 : own.length ≤ 1099511627776) (h5 : okSt st) :
    O52 12 [.agg c.cells, .int .i64 au, .agg m.cells, .int .i64 head, v] st (.tup [.agg (accC c au m head own).cells, .int .i64 (accE c au m own)]) st := (by repeat first | exact Or.inr ⟨rfl, rfl, c, au, m, head, v, own, h1, h2, h3, h4, h5, rfl, rfl⟩ | refine Or.inl ?_)
set_option maxHeartbeats 16000000 in
theorem g14 (c : Cu) (au : Int) (v : SV) (l : List Mf) (hv : SV) (hs : List Int) (ov : SV) (own : List Int) (st : List Ob) (hm : RowM st v l) (hh : RowI st hv hs) (hhl : hs.length ≤ 1099511627776) (hw : RowI st ov own) (hwl : own.length ≤ 1099511627776) (ho : okSt st) :
    swpF O52 sf14 [.agg c.cells, .int .i64 au, v, hv, ov] st (fun r st' => r = .tup [.agg (folF au own c l hs 0).1.cells, .int .i64 (folF au own c l hs 0).2.1, .int .i64 (folF au own c l hs 0).2.2] ∧ st' = st) := by
  obtain ⟨q1, q2, q3, q4, q6, q7⟩ := hm.1.facts
  obtain ⟨u1, u2, u3, u4, u6, u7⟩ := hh.facts
  obtain ⟨w1, w2, w3, w4, w6, w7⟩ := hw.facts
  have q5 := hm.1.lenL
  have u5 := hh.lenL
  have hb := hm.2.1
  have i1 := hm.idp 2
  have i2 := RowI.idp hh 2
  have i3 := RowI.idp hw 2
  have wk := fun x => RowAt.mono hw x
  have o2 : ∀ k : Cu, okSt (st ++ [.cells [.int .i64 k.ve, .int .i64 k.he, .int .i64 k.ep, .int .i64 k.ak], .cells [.int .i64 0, .int .i64 0, .int .i64 0, .int .i64 0]]) := fun k => okSt_appL ho rfl
  have sF := fun k : Cu => st_aggA (st := st) (l := [.cells [.int .i64 k.ve, .int .i64 k.he, .int .i64 k.ep, .int .i64 k.ak], .cells [.int .i64 0, .int .i64 0, .int .i64 0, .int .i64 0]]) (i := 1) (n := 4) (b := true) (xs := [.int .i64 k.ve, .int .i64 k.he, .int .i64 k.ep, .int .i64 k.ak]) rfl rfl rfl rfl rfl
  have sN := fun (k x : Cu) (a b : Ob) => st_aggA (st := st) (l := [.cells [.int .i64 k.ve, .int .i64 k.he, .int .i64 k.ep, .int .i64 k.ak], .cells [.int .i64 0, .int .i64 0, .int .i64 0, .int .i64 0], a, b]) (i := 1) (n := 4) (b := true) (xs := [.int .i64 x.ve, .int .i64 x.he, .int .i64 x.ep, .int .i64 x.ak]) rfl rfl rfl rfl rfl
  have sX := fun (k x : Cu) (a : Ob) => st_aggA (st := st) (l := [.cells [.int .i64 k.ve, .int .i64 k.he, .int .i64 k.ep, .int .i64 k.ak], .cells [.int .i64 0, .int .i64 0, .int .i64 0, .int .i64 0], a, .cells [.int .i64 0, .int .i64 0, .int .i64 0, .int .i64 0]]) (i := 3) (n := 4) (b := true) (xs := [.int .i64 x.ve, .int .i64 x.he, .int .i64 x.ep, .int .i64 x.ak]) rfl rfl rfl rfl rfl
  have s0 := fun (k x : Cu) (a b : Ob) => st_aggA (st := st) (l := [.cells [.int .i64 k.ve, .int .i64 k.he, .int .i64 k.ep, .int .i64 k.ak], .cells [.int .i64 0, .int .i64 0, .int .i64 0, .int .i64 0], a, b]) (i := 0) (n := 4) (b := true) (xs := [.int .i64 x.ve, .int .i64 x.he, .int .i64 x.ep, .int .i64 x.ak]) rfl rfl rfl rfl rfl
  simp only [Nat.add_zero] at s0
  simp only [acc_tup]
  simp (maxSteps := 2000000) (disch := first | omega | (simp only [List.length_append, List.length_cons, List.length_nil, List.length_map] <;> omega)) only [sf14, q1, q5, cv_agg, cell_int, List.append_assoc, List.set_cons_zero, List.set_cons_succ, flg_int, exc_agg, swp_seq, swp_reg, swp_block, seqK_n, evK_some, appK_eq, srun_nil, srun_cons, swpF_eq, sk_mv, sk_give, sk_lenL, sk_box, sk_alloc, get_mk, raw_slot, raw_lit, put_some, wb_nil, ev_mv, ev_give, ev_box, ev_alloc, ro_int, ro1_int, got_agg, List.map_cons, List.map_nil, List.getD_cons_zero, List.getD_cons_succ, List.set_cons_zero, List.set_cons_succ, List.length_cons, List.length_nil, List.replicate_succ, List.replicate_zero, List.cons_append, List.nil_append, Nat.reduceAdd, Nat.reduceSub, Bool.false_eq_true, ↓reduceIte, List.all_cons, List.all_nil, Bool.and_self, Nat.zero_add, List.length_append]
  refine swp_lp (fun S => ∃ (i : Nat) (k : Cu), i ≤ l.length ∧ folF au own c l hs 0 = folF au own k (l.drop i) (hs.drop i) i ∧
      S = ⟨[.undef, .int .i64 au, v, hv, ov, .ptr st.length 0, .undef, .undef, .undef, .undef, .ptr (st.length + 1) 0, .undef, .undef, .undef, .undef, .undef, .undef, .undef, v, .int .i64 l.length, .int .i64 i] ++ List.replicate 31 .undef, st ++ [.cells [.int .i64 k.ve, .int .i64 k.he, .int .i64 k.ep, .int .i64 k.ak], .cells [.int .i64 0, .int .i64 0, .int .i64 0, .int .i64 0]]⟩)
      (fun S => match S.get 20 with | .int _ k => ((l.length : Int) - k).toNat | _ => 0)
      ⟨[.undef, .int .i64 au, v, hv, ov, .ptr st.length 0, .undef, .undef, .undef, .undef, .ptr (st.length + 1) 0, .undef, .undef, .undef, .undef, .undef, .undef, .undef, v, .int .i64 l.length, .int .i64 0] ++ List.replicate 31 .undef, st ++ [.cells [.int .i64 c.ve, .int .i64 c.he, .int .i64 c.ep, .int .i64 c.ak], .cells [.int .i64 0, .int .i64 0, .int .i64 0, .int .i64 0]]⟩ ?_ ⟨0, c, Nat.zero_le _, rfl, rfl⟩ ?_
  · refine Forget.of ?_
    repeat first | exact fg_e | refine fg_d ?_ | refine fg_k rfl ?_
  rintro S ⟨i, k, hi, hall, rfl⟩
  by_cases him : i = l.length
  · have hd : decide ((i : Int) < (l.length : Int)) = false := by rw [decide_eq_false_iff_not]; omega
    have e : folF au own c l hs 0 = (k, (l.length : Int), 0) := by rw [hall, him, List.drop_length, folF]
    simp (maxSteps := 2000000) (disch := first | omega | (simp only [List.length_append, List.length_cons, List.length_nil, List.length_map] <;> omega)) only [hd, sF, q1, q5, getA0, ev_ldA, List.drop_zero, List.take_succ_cons, List.take_zero, List.set_cons_zero, List.set_cons_succ, lpK_e, apO_some, flg_int, swp_seq, swp_reg, swp_ret, swp_exit, swp_cond, seqK_n, seqK_e, blkK_e, condK_f, evK_some, appK_eq, srun_nil, srun_cons, sk_mv, sk_give, sk_bin, sk_load, sk_store, sk_lenL, get_mk, raw_slot, raw_lit, put_some, put_none, wb_nil, ev_mv, ev_give, bin_lss, ro_int, ro_agg, ro1_int, List.map_cons, List.map_nil, List.getD_cons_zero, List.getD_cons_succ, List.set_cons_zero, List.set_cons_succ, List.getElem?_cons_zero, List.length_cons, List.length_nil, List.replicate_succ, List.replicate_zero, List.cons_append, List.nil_append, Nat.reduceAdd, Bool.false_eq_true, ↓reduceIte, Nat.zero_add, List.length_append, Nat.le_refl]
    exact fn_fol (c := k) rfl ho rfl rfl rfl rfl e
  have hd : decide ((i : Int) < (l.length : Int)) = true := by rw [decide_eq_true_eq]; omega
  have hil : i < l.length := by omega
  have fin : ((l.length : Int) - ((i + 1 : Nat) : Int)).toNat < ((l.length : Int) - (i : Int)).toNat := by omega
  obtain ⟨hmo, hmf⟩ := hm.2.2 _ (List.getElem_mem hil)
  have z1 := hm.1.idxB hil .i64
  have z2 := hm.at' hil [.cells [.int .i64 k.ve, .int .i64 k.he, .int .i64 k.ep, .int .i64 k.ak], .cells [.int .i64 0, .int .i64 0, .int .i64 0, .int .i64 0]]
  have z3 := ro1_mf hmo
  have sM := st_aggA (st := st) (l := [.cells [.int .i64 k.ve, .int .i64 k.he, .int .i64 k.ep, .int .i64 k.ak], .cells [.int .i64 0, .int .i64 0, .int .i64 0, .int .i64 0], .cells [.int .i64 0, .int .i64 0, .int .i64 0, .int .i64 0, .int .i64 0, .int .i64 0, .int .i64 0, .nilS]]) (i := 2) (n := 8) (b := true) (xs := l[i].cells) rfl z3 (cell_mf hmo) rfl rfl
  have mlen : l[i].cells.length = 8 := rfl
  have mtake : l[i].cells.take 8 = l[i].cells := rfl
  have oM : okSt (st ++ [.cells [.int .i64 k.ve, .int .i64 k.he, .int .i64 k.ep, .int .i64 k.ak], .cells [.int .i64 0, .int .i64 0, .int .i64 0, .int .i64 0], .cells l[i].cells]) := by
    refine okSt_appL ho ?_
    have := idOks_mf (hmo.mono [.cells [.int .i64 k.ve, .int .i64 k.he, .int .i64 k.ep, .int .i64 k.ak], .cells [.int .i64 0, .int .i64 0, .int .i64 0, .int .i64 0], .cells l[i].cells])
    rw [List.length_append] at this
    simp only [List.all_cons, List.all_nil, Bool.and_true, obOk, idOks, idOk, Bool.true_and]
    exact this
  have step := folF_at (au := au) (own := own) (c := k) (hs := hs) hil
  by_cases hih : i < hs.length
  · have d2 : decide ((i : Int) < (hs.length : Int)) = true := by rw [decide_eq_true_eq]; omega
    have y1 := hh.idxB hih .i64
    rw [Nat.mul_one] at y1
    have y2 := hh.ld1 (isv_at (List.getElem?_eq_getElem hih))
    have eh : hs.getD i 0 = hs[i] := by rw [List.getD_eq_getElem?_getD, List.getElem?_eq_getElem hih]; rfl
    rw [eh] at step
    simp (maxSteps := 2000000) (disch := first | omega | (simp only [List.length_append, List.length_cons, List.length_nil, List.length_map] <;> omega)) only [hd, d2, y1, y2, z1, z2, z3, sM, mlen, mtake, u1, u5, w1, w2, w3, getA0, getA, ev_ldA, List.drop_zero, List.take_succ_cons, List.take_zero, List.append_assoc, List.set_cons_zero, List.set_cons_succ, apO_some, flg_int, exc_int, exc_agg, sk_idxB, swp_seq, swp_reg, swp_skip, swp_block, swp_cond, seqK_n, condK_t, evK_some, appK_eq, srun_nil, srun_cons, stepK_call, sk_mv, sk_take, sk_give, sk_bin, sk_load, sk_store, sk_lenL, sk_alloc, get_mk, raw_slot, raw_lit, put_some, put_none, wb_nil, ev_mv, ev_take, ev_give, bin_lss, ev_alloc, ro_int, ro_agg, ro1_int, got_int, got_agg, pubs, pubsFrom, List.map_cons, List.map_nil, List.getD_cons_zero, List.getD_cons_succ, List.set_cons_zero, List.set_cons_succ, List.getElem?_cons_zero, List.getElem?_cons_succ, List.length_cons, List.length_nil, List.replicate_succ, List.replicate_zero, List.cons_append, List.nil_append, Nat.reduceAdd, Bool.false_eq_true, ↓reduceIte, Nat.zero_add, List.length_append, Nat.le_refl]
    refine callK_intro (r11 (c := k) (hmo.mono _) hmf (wk _) hwl oM) ?_
    rcases bf (accE k au l[i] own == 0) with e1 | e1
    · have e1' : ¬ accE k au l[i] own = 0 := by simpa using e1
      rw [if_neg e1'] at step
      simp (maxSteps := 2000000) (disch := first | omega | (simp only [List.length_append, List.length_cons, List.length_nil, List.length_map] <;> omega)) only [acc_tup, e1, sX, sN, nbI, getA0, ev_ldA, List.drop_zero, List.take_succ_cons, List.take_zero, List.append_assoc, List.set_cons_zero, List.set_cons_succ, lpK_r, apO_some, flg_int, flg_agg, swp_seq, swp_reg, swp_ret, swp_cond, seqK_n, seqK_r, blkK_r, condK_t, evK_some, appK_eq, appC_eq, srun_nil, srun_cons, sk_mv, sk_give, sk_bin, sk_load, sk_store, sk_alloc, sk_ext, get_mk, raw_slot, raw_lit, put_some, put_none, wb_nil, ev_mv, ev_give, ev_ext, bin_neq, ev_alloc, ro_int, ro_agg, ro_tup, ro1_int, ro2_int, List.map_cons, List.map_nil, List.getD_cons_zero, List.getD_cons_succ, List.set_cons_zero, List.set_cons_succ, List.getElem?_cons_zero, List.getElem?_cons_succ, List.length_cons, List.length_nil, List.cons_append, List.nil_append, Nat.reduceAdd, Bool.false_eq_true, Option.map_some, ↓reduceIte, Nat.zero_add, Bool.not_false, List.length_append, Nat.le_refl]
      exact fn_fol (c := k) rfl ho rfl rfl rfl rfl (hall.trans step)
    · have e1' : accE k au l[i] own = 0 := by simpa using e1
      rw [if_pos e1'] at step
      simp (maxSteps := 2000000) (disch := first | omega | (simp only [List.length_append, List.length_cons, List.length_nil, List.length_map] <;> omega)) only [acc_tup, e1, sX, s0, nbI, getA, ev_ldA, List.drop_zero, List.take_succ_cons, List.take_zero, List.append_assoc, List.set_cons_zero, List.set_cons_succ, lpK_n, apO_some, flg_int, flg_agg, swp_seq, swp_reg, swp_skip, swp_cond, seqK_n, blkK_n, condK_f, evK_some, appK_eq, appC_eq, srun_nil, srun_cons, sk_mv, sk_give, sk_bin, sk_load, sk_store, sk_alloc, sk_ext, get_mk, raw_slot, raw_lit, put_some, put_none, wb_nil, ev_mv, ev_give, ev_ext, bin_add, bin_neq, ev_alloc, ro_int, ro_agg, ro_tup, ro1_int, ro2_int, List.map_cons, List.map_nil, List.getD_cons_zero, List.getD_cons_succ, List.set_cons_zero, List.set_cons_succ, List.getElem?_cons_zero, List.getElem?_cons_succ, List.length_cons, List.length_nil, List.cons_append, List.nil_append, Nat.reduceAdd, Bool.false_eq_true, Option.map_some, ↓reduceIte, Nat.zero_add, Bool.not_true, wrap_i64, List.length_append, Nat.le_refl]
      refine ⟨_, Forget.cutA (l := [_, _]) (x := [_, _]) ?_ (by simp) ?_ (o2 _), ⟨i + 1, _, by omega, hall.trans step, rfl⟩, by exact fin⟩
      · repeat first | exact fg_e | refine fg_d ?_ | refine fg_k rfl ?_
      · simp [idOks, idOk, i1, i2, i3]
  · have d2 : decide ((i : Int) < (hs.length : Int)) = false := by rw [decide_eq_false_iff_not]; omega
    have eh : hs.getD i 0 = 0 := by rw [List.getD_eq_getElem?_getD, List.getElem?_eq_none (by omega)]; rfl
    rw [eh] at step
    simp (maxSteps := 2000000) (disch := first | omega | (simp only [List.length_append, List.length_cons, List.length_nil, List.length_map] <;> omega)) only [hd, d2, z1, z2, z3, sM, mlen, mtake, u1, u5, w1, w2, w3, getA0, getA, ev_ldA, List.drop_zero, List.take_succ_cons, List.take_zero, List.append_assoc, List.set_cons_zero, List.set_cons_succ, apO_some, exc_int, exc_agg, sk_idxB, swp_seq, swp_reg, swp_skip, swp_block, swp_cond, seqK_n, condK_t, condK_f, evK_some, appK_eq, srun_nil, srun_cons, stepK_call, sk_mv, sk_take, sk_bin, sk_load, sk_store, sk_lenL, sk_alloc, get_mk, raw_slot, raw_lit, put_some, put_none, wb_nil, ev_mv, ev_take, bin_lss, ev_alloc, ro_int, ro_agg, ro1_int, got_int, got_agg, pubs, pubsFrom, List.map_cons, List.map_nil, List.getD_cons_zero, List.getD_cons_succ, List.set_cons_zero, List.set_cons_succ, List.getElem?_cons_zero, List.getElem?_cons_succ, List.length_cons, List.length_nil, List.replicate_succ, List.replicate_zero, List.cons_append, List.nil_append, Nat.reduceAdd, Bool.false_eq_true, ↓reduceIte, Nat.zero_add, List.length_append, Nat.le_refl]
    refine callK_intro (r11 (c := k) (hmo.mono _) hmf (wk _) hwl oM) ?_
    rcases bf (accE k au l[i] own == 0) with e1 | e1
    · have e1' : ¬ accE k au l[i] own = 0 := by simpa using e1
      rw [if_neg e1'] at step
      simp (maxSteps := 2000000) (disch := first | omega | (simp only [List.length_append, List.length_cons, List.length_nil, List.length_map] <;> omega)) only [acc_tup, e1, sX, sN, nbI, getA0, ev_ldA, List.drop_zero, List.take_succ_cons, List.take_zero, List.append_assoc, List.set_cons_zero, List.set_cons_succ, lpK_r, apO_some, flg_int, flg_agg, swp_seq, swp_reg, swp_ret, swp_cond, seqK_n, seqK_r, blkK_r, condK_t, evK_some, appK_eq, appC_eq, srun_nil, srun_cons, sk_mv, sk_give, sk_bin, sk_load, sk_store, sk_alloc, sk_ext, get_mk, raw_slot, raw_lit, put_some, put_none, wb_nil, ev_mv, ev_give, ev_ext, bin_neq, ev_alloc, ro_int, ro_agg, ro_tup, ro1_int, ro2_int, List.map_cons, List.map_nil, List.getD_cons_zero, List.getD_cons_succ, List.set_cons_zero, List.set_cons_succ, List.getElem?_cons_zero, List.getElem?_cons_succ, List.length_cons, List.length_nil, List.cons_append, List.nil_append, Nat.reduceAdd, Bool.false_eq_true, Option.map_some, ↓reduceIte, Nat.zero_add, Bool.not_false, List.length_append, Nat.le_refl]
      exact fn_fol (c := k) rfl ho rfl rfl rfl rfl (hall.trans step)
    · have e1' : accE k au l[i] own = 0 := by simpa using e1
      rw [if_pos e1'] at step
      simp (maxSteps := 2000000) (disch := first | omega | (simp only [List.length_append, List.length_cons, List.length_nil, List.length_map] <;> omega)) only [acc_tup, e1, sX, s0, nbI, getA, ev_ldA, List.drop_zero, List.take_succ_cons, List.take_zero, List.append_assoc, List.set_cons_zero, List.set_cons_succ, lpK_n, apO_some, flg_int, flg_agg, swp_seq, swp_reg, swp_skip, swp_cond, seqK_n, blkK_n, condK_f, evK_some, appK_eq, appC_eq, srun_nil, srun_cons, sk_mv, sk_give, sk_bin, sk_load, sk_store, sk_alloc, sk_ext, get_mk, raw_slot, raw_lit, put_some, put_none, wb_nil, ev_mv, ev_give, ev_ext, bin_add, bin_neq, ev_alloc, ro_int, ro_agg, ro_tup, ro1_int, ro2_int, List.map_cons, List.map_nil, List.getD_cons_zero, List.getD_cons_succ, List.set_cons_zero, List.set_cons_succ, List.getElem?_cons_zero, List.getElem?_cons_succ, List.length_cons, List.length_nil, List.cons_append, List.nil_append, Nat.reduceAdd, Bool.false_eq_true, Option.map_some, ↓reduceIte, Nat.zero_add, Bool.not_true, wrap_i64, List.length_append, Nat.le_refl]
      refine ⟨_, Forget.cutA (l := [_, _]) (x := [_, _]) ?_ (by simp) ?_ (o2 _), ⟨i + 1, _, by omega, hall.trans step, rfl⟩, by exact fin⟩
      · repeat first | exact fg_e | refine fg_d ?_ | refine fg_k rfl ?_
      · simp [idOks, idOk, i1, i2, i3]
def O53 : Orc := O52.add 14 (StC KFol)
theorem s53 : Sound Tryd.prog O53 := s52.addS c14 (by kernel_rfl) (by
  rintro args r st ⟨c, au, v, l, hv, hs, ov, own, h1, h2, h3, h4, h5, ho, rfl, rfl⟩
  exact ⟨by simp [sf14], g14 c au v l hv hs ov own st h1 h2 h3 h4 h5 ho⟩)
end Go.Sh.F
namespace Go.Sh.F
open Go.PathLaw Go.Proofs
def vC0 : Cu := ⟨3, 7, 1, 1⟩
def vM0 : Mf := ⟨1, 4, 7, 1, 2, 2, 6, .nilS, []⟩
def vD0 : Cu := ⟨4, 9, 2, 2⟩
theorem vM_ok (st : List Ob) : vM0.ok st := nil_ok rfl rfl st
theorem vM_fit : vM0.fit := by unfold Mf.fit vM0; simp only; omega
theorem v1 : nxtF vC0 1 true 2 6 .nilS [] = 0 := by decide +kernel
theorem v1' : nxtR vC0 1 true 2 6 = vM0 := by unfold nxtR; rw [if_pos v1]; rfl
theorem v2 : accE vC0 1 vM0 [5, 6] = 0 := by decide +kernel
theorem v2' : accC vC0 1 vM0 9 [5, 6] = vD0 := by unfold accC; rw [if_pos v2]; rfl
theorem v3 : accE vD0 1 vM0 [5, 6] = 9 := by decide +kernel
theorem v3' : accC vD0 1 vM0 9 [5, 6] = vD0 := by unfold accC; rw [if_neg (by rw [v3]; decide)]
theorem v4 : accE ⟨2, 0, 0, 0⟩ 1 vM0 [] = 10 := by decide +kernel
theorem v4' : accC ⟨2, 0, 0, 0⟩ 1 vM0 9 [] = ⟨2, 0, 0, 0⟩ := by unfold accC; rw [if_neg (by rw [v4]; decide)]
theorem v5 : accE vC0 1 vM0 [5, 4] = 11 := by decide +kernel
theorem v5' : accC vC0 1 vM0 9 [5, 4] = vC0 := by unfold accC; rw [if_neg (by rw [v5]; decide)]
theorem v6 : nxtF ⟨200, 0, 0, 0⟩ 1 false 0 0 .nilS [] = 2 := by decide +kernel
theorem v6' : nxtR ⟨200, 0, 0, 0⟩ 1 false 0 0 = Mf.none := by unfold nxtR; rw [if_neg (by rw [v6]; decide)]
theorem v7 : folF 1 [5, 6] vC0 [vM0, vM0] [9] 0 = (vD0, 1, 9) := by
  rw [folF, if_pos v2]
  show folF 1 [5, 6] (accC vC0 1 vM0 9 [5, 6]) [vM0] [] 1 = _
  rw [v2', folF, if_neg (by rw [v3]; decide), v3]; rfl
theorem r16 {c : Cu} (hc : c.fit) {au : Int} {turn : Bool} {pv ph x y : Int} {st : List Ob} (ho : okSt st) :
    O53 16 [.agg c.cells, .int .i64 au, .bool turn, .agg (pc0 pv ph x y), .nilS] st (.tup [.agg (nxtR c au turn pv ph).cells, .int .i64 (nxtF c au turn pv ph .nilS [])]) st := (by repeat first | exact Or.inr ⟨rfl, rfl, c, au, turn, pv, ph, x, y, hc, ho, rfl, rfl⟩ | refine Or.inl ?_)
theorem r13 {e : Int} {st : List Ob} : O53 13 [.int .i64 e] st (.bool (e == 11)) st := (by repeat first | exact Or.inr ⟨rfl, rfl, e, rfl, rfl⟩ | refine Or.inl ?_)
theorem r11s {c : Cu} {au : Int} {m : Mf} {head : Int} {v : SV} {own : List Int} {st : List Ob} (h1 : m.ok st) (h2 : m.fit) (h3 : RowI st v own) (h4 : own.length ≤ 1099511627776) (h5 : okSt st) :
    O53 11 [.agg c.cells, .int .i64 au, .agg m.cells, .int .i64 head, v] st (.tup [.agg (accC c au m head own).cells, .int .i64 (accE c au m own)]) st := .inl (r11 h1 h2 h3 h4 h5)
theorem vrow (st : List Ob) {f : Fl} (hf : f = .ro ∨ f = .full) : RowM st (.sl (vM0.cells ++ vM0.cells) 2 f) [vM0, vM0] :=
  ⟨⟨rfl, .inr (.inl ⟨f, hf, rfl⟩)⟩, by simp, by intro m hm; simp at hm; subst hm; exact ⟨vM_ok st, vM_fit⟩⟩
set_option maxHeartbeats 16000000 in
set_option maxRecDepth 50000 in
theorem g9 (st : List Ob) (ho : okSt st) : swpF O53 sf9 [] st (fun r st' => r = .bool true ∧ st' = st) := by
  have t0 := st_aggA (st := st) (l := [.cells [.int .i64 0, .int .i64 0, .int .i64 0, .int .i64 0]]) (i := 0) (n := 4) (b := true) (xs := [.int .i64 3, .int .i64 7, .int .i64 1, .int .i64 1]) rfl rfl rfl rfl rfl
  simp only [Nat.add_zero] at t0
  have t1 := st_aggA (st := st) (l := [.cells [.int .i64 3, .int .i64 7, .int .i64 1, .int .i64 1], .cells [.int .i64 0, .int .i64 0, .int .i64 0, .int .i64 0, .int .i64 0, .int .i64 0, .int .i64 0, .nilS]]) (i := 1) (n := 8) (b := true) (xs := [.int .i64 1, .int .i64 4, .int .i64 7, .int .i64 1, .int .i64 2, .int .i64 2, .int .i64 6, .nilS]) rfl rfl rfl rfl rfl
  have t2 := st_aggA (st := st) (l := [.cells [.int .i64 3, .int .i64 7, .int .i64 1, .int .i64 1], .cells [.int .i64 1, .int .i64 4, .int .i64 7, .int .i64 1, .int .i64 2, .int .i64 2, .int .i64 6, .nilS], .cells [.int .i64 0, .int .i64 0, .int .i64 0, .int .i64 0]]) (i := 2) (n := 4) (b := true) (xs := [.int .i64 4, .int .i64 9, .int .i64 2, .int .i64 2]) rfl rfl rfl rfl rfl
  have t3 := st_aggA (st := st) (l := [.cells [.int .i64 3, .int .i64 7, .int .i64 1, .int .i64 1], .cells [.int .i64 1, .int .i64 4, .int .i64 7, .int .i64 1, .int .i64 2, .int .i64 2, .int .i64 6, .nilS], .cells [.int .i64 4, .int .i64 9, .int .i64 2, .int .i64 2], .cells [.int .i64 0, .int .i64 0, .int .i64 0, .int .i64 0]]) (i := 3) (n := 4) (b := true) (xs := [.int .i64 4, .int .i64 9, .int .i64 2, .int .i64 2]) rfl rfl rfl rfl rfl
  have t4 := st_aggA (st := st) (l := [.cells [.int .i64 3, .int .i64 7, .int .i64 1, .int .i64 1], .cells [.int .i64 1, .int .i64 4, .int .i64 7, .int .i64 1, .int .i64 2, .int .i64 2, .int .i64 6, .nilS], .cells [.int .i64 4, .int .i64 9, .int .i64 2, .int .i64 2], .cells [.int .i64 4, .int .i64 9, .int .i64 2, .int .i64 2], .cells [.int .i64 0, .int .i64 0, .int .i64 0, .int .i64 0]]) (i := 4) (n := 4) (b := true) (xs := [.int .i64 2, .int .i64 0, .int .i64 0, .int .i64 0]) rfl rfl rfl rfl rfl
  have t5 := st_aggA (st := st) (l := [.cells [.int .i64 3, .int .i64 7, .int .i64 1, .int .i64 1], .cells [.int .i64 1, .int .i64 4, .int .i64 7, .int .i64 1, .int .i64 2, .int .i64 2, .int .i64 6, .nilS], .cells [.int .i64 4, .int .i64 9, .int .i64 2, .int .i64 2], .cells [.int .i64 4, .int .i64 9, .int .i64 2, .int .i64 2], .cells [.int .i64 2, .int .i64 0, .int .i64 0, .int .i64 0], .cells [.int .i64 0, .int .i64 0, .int .i64 0, .int .i64 0]]) (i := 5) (n := 4) (b := true) (xs := [.int .i64 3, .int .i64 7, .int .i64 1, .int .i64 1]) rfl rfl rfl rfl rfl
  have t6 := st_aggA (st := st) (l := [.cells [.int .i64 3, .int .i64 7, .int .i64 1, .int .i64 1], .cells [.int .i64 1, .int .i64 4, .int .i64 7, .int .i64 1, .int .i64 2, .int .i64 2, .int .i64 6, .nilS], .cells [.int .i64 4, .int .i64 9, .int .i64 2, .int .i64 2], .cells [.int .i64 4, .int .i64 9, .int .i64 2, .int .i64 2], .cells [.int .i64 2, .int .i64 0, .int .i64 0, .int .i64 0], .cells [.int .i64 3, .int .i64 7, .int .i64 1, .int .i64 1], .cells [.int .i64 0, .int .i64 0, .int .i64 0, .int .i64 0, .int .i64 0, .int .i64 0, .int .i64 0, .nilS]]) (i := 6) (n := 8) (b := true) (xs := [.int .i64 0, .int .i64 0, .int .i64 0, .int .i64 0, .int .i64 0, .int .i64 0, .int .i64 0, .nilS]) rfl rfl rfl rfl rfl
  have t7 := st_aggA (st := st) (l := [.cells [.int .i64 3, .int .i64 7, .int .i64 1, .int .i64 1], .cells [.int .i64 1, .int .i64 4, .int .i64 7, .int .i64 1, .int .i64 2, .int .i64 2, .int .i64 6, .nilS], .cells [.int .i64 4, .int .i64 9, .int .i64 2, .int .i64 2], .cells [.int .i64 4, .int .i64 9, .int .i64 2, .int .i64 2], .cells [.int .i64 2, .int .i64 0, .int .i64 0, .int .i64 0], .cells [.int .i64 3, .int .i64 7, .int .i64 1, .int .i64 1], .cells [.int .i64 0, .int .i64 0, .int .i64 0, .int .i64 0, .int .i64 0, .int .i64 0, .int .i64 0, .nilS], .cells [.int .i64 0, .int .i64 0, .int .i64 0, .int .i64 0]]) (i := 7) (n := 4) (b := true) (xs := [.int .i64 4, .int .i64 9, .int .i64 2, .int .i64 2]) rfl rfl rfl rfl rfl
  have o1 : okSt (st ++ [.cells [.int .i64 3, .int .i64 7, .int .i64 1, .int .i64 1]]) := okSt_appL ho rfl
  have o2 : okSt (st ++ [.cells [.int .i64 3, .int .i64 7, .int .i64 1, .int .i64 1], .cells [.int .i64 1, .int .i64 4, .int .i64 7, .int .i64 1, .int .i64 2, .int .i64 2, .int .i64 6, .nilS]]) := okSt_appL ho rfl
  have o3 : okSt (st ++ [.cells [.int .i64 3, .int .i64 7, .int .i64 1, .int .i64 1], .cells [.int .i64 1, .int .i64 4, .int .i64 7, .int .i64 1, .int .i64 2, .int .i64 2, .int .i64 6, .nilS], .cells [.int .i64 4, .int .i64 9, .int .i64 2, .int .i64 2]]) := okSt_appL ho rfl
  have o4 : okSt (st ++ [.cells [.int .i64 3, .int .i64 7, .int .i64 1, .int .i64 1], .cells [.int .i64 1, .int .i64 4, .int .i64 7, .int .i64 1, .int .i64 2, .int .i64 2, .int .i64 6, .nilS], .cells [.int .i64 4, .int .i64 9, .int .i64 2, .int .i64 2], .cells [.int .i64 4, .int .i64 9, .int .i64 2, .int .i64 2]]) := okSt_appL ho rfl
  have o5 : okSt (st ++ [.cells [.int .i64 3, .int .i64 7, .int .i64 1, .int .i64 1], .cells [.int .i64 1, .int .i64 4, .int .i64 7, .int .i64 1, .int .i64 2, .int .i64 2, .int .i64 6, .nilS], .cells [.int .i64 4, .int .i64 9, .int .i64 2, .int .i64 2], .cells [.int .i64 4, .int .i64 9, .int .i64 2, .int .i64 2], .cells [.int .i64 2, .int .i64 0, .int .i64 0, .int .i64 0]]) := okSt_appL ho rfl
  have o6 : okSt (st ++ [.cells [.int .i64 3, .int .i64 7, .int .i64 1, .int .i64 1], .cells [.int .i64 1, .int .i64 4, .int .i64 7, .int .i64 1, .int .i64 2, .int .i64 2, .int .i64 6, .nilS], .cells [.int .i64 4, .int .i64 9, .int .i64 2, .int .i64 2], .cells [.int .i64 4, .int .i64 9, .int .i64 2, .int .i64 2], .cells [.int .i64 2, .int .i64 0, .int .i64 0, .int .i64 0], .cells [.int .i64 3, .int .i64 7, .int .i64 1, .int .i64 1]]) := okSt_appL ho rfl
  have o7 : okSt (st ++ [.cells [.int .i64 3, .int .i64 7, .int .i64 1, .int .i64 1], .cells [.int .i64 1, .int .i64 4, .int .i64 7, .int .i64 1, .int .i64 2, .int .i64 2, .int .i64 6, .nilS], .cells [.int .i64 4, .int .i64 9, .int .i64 2, .int .i64 2], .cells [.int .i64 4, .int .i64 9, .int .i64 2, .int .i64 2], .cells [.int .i64 2, .int .i64 0, .int .i64 0, .int .i64 0], .cells [.int .i64 3, .int .i64 7, .int .i64 1, .int .i64 1], .cells [.int .i64 0, .int .i64 0, .int .i64 0, .int .i64 0, .int .i64 0, .int .i64 0, .int .i64 0, .nilS]]) := okSt_appL ho rfl
  have k1 : O53 16 [.agg [.int .i64 3, .int .i64 7, .int .i64 1, .int .i64 1], .int .i64 1, .bool true, .agg [.int .i64 2, .int .i64 6, .int .i64 0, .int .i64 0], .nilS] (st ++ [.cells [.int .i64 3, .int .i64 7, .int .i64 1, .int .i64 1]]) (.tup [.agg [.int .i64 1, .int .i64 4, .int .i64 7, .int .i64 1, .int .i64 2, .int .i64 2, .int .i64 6, .nilS], .int .i64 0]) (st ++ [.cells [.int .i64 3, .int .i64 7, .int .i64 1, .int .i64 1]]) := by
    have := r16 (c := vC0) (by unfold Cu.fit vC0; simp only; omega) (au := 1) (turn := true) (pv := 2) (ph := 6) (x := 0) (y := 0) o1
    rw [v1, v1'] at this
    exact this
  have k2 : O53 11 [.agg [.int .i64 3, .int .i64 7, .int .i64 1, .int .i64 1], .int .i64 1, .agg [.int .i64 1, .int .i64 4, .int .i64 7, .int .i64 1, .int .i64 2, .int .i64 2, .int .i64 6, .nilS], .int .i64 9, .sl [.int .i64 5, .int .i64 6] 2 .ro] (st ++ [.cells [.int .i64 3, .int .i64 7, .int .i64 1, .int .i64 1], .cells [.int .i64 1, .int .i64 4, .int .i64 7, .int .i64 1, .int .i64 2, .int .i64 2, .int .i64 6, .nilS]]) (.tup [.agg [.int .i64 4, .int .i64 9, .int .i64 2, .int .i64 2], .int .i64 0]) (st ++ [.cells [.int .i64 3, .int .i64 7, .int .i64 1, .int .i64 1], .cells [.int .i64 1, .int .i64 4, .int .i64 7, .int .i64 1, .int .i64 2, .int .i64 2, .int .i64 6, .nilS]]) := by
    have := (r11s (c := vC0) (au := 1) (m := vM0) (head := 9) (own := [5, 6]) (vM_ok _) vM_fit (RowI.mk (.inl rfl) rfl) (by simp) o2)
    rw [v2, v2'] at this
    exact this
  have k3 : O53 11 [.agg [.int .i64 4, .int .i64 9, .int .i64 2, .int .i64 2], .int .i64 1, .agg [.int .i64 1, .int .i64 4, .int .i64 7, .int .i64 1, .int .i64 2, .int .i64 2, .int .i64 6, .nilS], .int .i64 9, .sl [.int .i64 5, .int .i64 6] 2 .ro] (st ++ [.cells [.int .i64 3, .int .i64 7, .int .i64 1, .int .i64 1], .cells [.int .i64 1, .int .i64 4, .int .i64 7, .int .i64 1, .int .i64 2, .int .i64 2, .int .i64 6, .nilS], .cells [.int .i64 4, .int .i64 9, .int .i64 2, .int .i64 2]]) (.tup [.agg [.int .i64 4, .int .i64 9, .int .i64 2, .int .i64 2], .int .i64 9]) (st ++ [.cells [.int .i64 3, .int .i64 7, .int .i64 1, .int .i64 1], .cells [.int .i64 1, .int .i64 4, .int .i64 7, .int .i64 1, .int .i64 2, .int .i64 2, .int .i64 6, .nilS], .cells [.int .i64 4, .int .i64 9, .int .i64 2, .int .i64 2]]) := by
    have := (r11s (c := vD0) (au := 1) (m := vM0) (head := 9) (own := [5, 6]) (vM_ok _) vM_fit (RowI.mk (.inl rfl) rfl) (by simp) o3)
    rw [v3, v3'] at this
    exact this
  have k4 : O53 11 [.agg [.int .i64 2, .int .i64 0, .int .i64 0, .int .i64 0], .int .i64 1, .agg [.int .i64 1, .int .i64 4, .int .i64 7, .int .i64 1, .int .i64 2, .int .i64 2, .int .i64 6, .nilS], .int .i64 9, .nilS] (st ++ [.cells [.int .i64 3, .int .i64 7, .int .i64 1, .int .i64 1], .cells [.int .i64 1, .int .i64 4, .int .i64 7, .int .i64 1, .int .i64 2, .int .i64 2, .int .i64 6, .nilS], .cells [.int .i64 4, .int .i64 9, .int .i64 2, .int .i64 2], .cells [.int .i64 4, .int .i64 9, .int .i64 2, .int .i64 2]]) (.tup [.agg [.int .i64 2, .int .i64 0, .int .i64 0, .int .i64 0], .int .i64 10]) (st ++ [.cells [.int .i64 3, .int .i64 7, .int .i64 1, .int .i64 1], .cells [.int .i64 1, .int .i64 4, .int .i64 7, .int .i64 1, .int .i64 2, .int .i64 2, .int .i64 6, .nilS], .cells [.int .i64 4, .int .i64 9, .int .i64 2, .int .i64 2], .cells [.int .i64 4, .int .i64 9, .int .i64 2, .int .i64 2]]) := by
    have := (r11s (c := ⟨2, 0, 0, 0⟩) (au := 1) (m := vM0) (head := 9) (own := []) (vM_ok _) vM_fit (RowI.nil _) (by simp) o4)
    rw [v4, v4'] at this
    exact this
  have k5 : O53 11 [.agg [.int .i64 3, .int .i64 7, .int .i64 1, .int .i64 1], .int .i64 1, .agg [.int .i64 1, .int .i64 4, .int .i64 7, .int .i64 1, .int .i64 2, .int .i64 2, .int .i64 6, .nilS], .int .i64 9, .sl [.int .i64 5, .int .i64 4] 2 .ro] (st ++ [.cells [.int .i64 3, .int .i64 7, .int .i64 1, .int .i64 1], .cells [.int .i64 1, .int .i64 4, .int .i64 7, .int .i64 1, .int .i64 2, .int .i64 2, .int .i64 6, .nilS], .cells [.int .i64 4, .int .i64 9, .int .i64 2, .int .i64 2], .cells [.int .i64 4, .int .i64 9, .int .i64 2, .int .i64 2], .cells [.int .i64 2, .int .i64 0, .int .i64 0, .int .i64 0]]) (.tup [.agg [.int .i64 3, .int .i64 7, .int .i64 1, .int .i64 1], .int .i64 11]) (st ++ [.cells [.int .i64 3, .int .i64 7, .int .i64 1, .int .i64 1], .cells [.int .i64 1, .int .i64 4, .int .i64 7, .int .i64 1, .int .i64 2, .int .i64 2, .int .i64 6, .nilS], .cells [.int .i64 4, .int .i64 9, .int .i64 2, .int .i64 2], .cells [.int .i64 4, .int .i64 9, .int .i64 2, .int .i64 2], .cells [.int .i64 2, .int .i64 0, .int .i64 0, .int .i64 0]]) := by
    have := (r11s (c := vC0) (au := 1) (m := vM0) (head := 9) (own := [5, 4]) (vM_ok _) vM_fit (RowI.mk (.inl rfl) rfl) (by simp) o5)
    rw [v5, v5'] at this
    exact this
  have k6 : O53 16 [.agg [.int .i64 200, .int .i64 0, .int .i64 0, .int .i64 0], .int .i64 1, .bool false, .agg [.int .i64 0, .int .i64 0, .int .i64 0, .int .i64 0], .nilS] (st ++ [.cells [.int .i64 3, .int .i64 7, .int .i64 1, .int .i64 1], .cells [.int .i64 1, .int .i64 4, .int .i64 7, .int .i64 1, .int .i64 2, .int .i64 2, .int .i64 6, .nilS], .cells [.int .i64 4, .int .i64 9, .int .i64 2, .int .i64 2], .cells [.int .i64 4, .int .i64 9, .int .i64 2, .int .i64 2], .cells [.int .i64 2, .int .i64 0, .int .i64 0, .int .i64 0], .cells [.int .i64 3, .int .i64 7, .int .i64 1, .int .i64 1]]) (.tup [.agg [.int .i64 0, .int .i64 0, .int .i64 0, .int .i64 0, .int .i64 0, .int .i64 0, .int .i64 0, .nilS], .int .i64 2]) (st ++ [.cells [.int .i64 3, .int .i64 7, .int .i64 1, .int .i64 1], .cells [.int .i64 1, .int .i64 4, .int .i64 7, .int .i64 1, .int .i64 2, .int .i64 2, .int .i64 6, .nilS], .cells [.int .i64 4, .int .i64 9, .int .i64 2, .int .i64 2], .cells [.int .i64 4, .int .i64 9, .int .i64 2, .int .i64 2], .cells [.int .i64 2, .int .i64 0, .int .i64 0, .int .i64 0], .cells [.int .i64 3, .int .i64 7, .int .i64 1, .int .i64 1]]) := by
    have := r16 (c := ⟨200, 0, 0, 0⟩) (by unfold Cu.fit; simp only; omega) (au := 1) (turn := false) (pv := 0) (ph := 0) (x := 0) (y := 0) o6
    rw [v6, v6'] at this
    exact this
  have k7 : O53 14 [.agg [.int .i64 3, .int .i64 7, .int .i64 1, .int .i64 1], .int .i64 1, .sl ([.int .i64 1, .int .i64 4, .int .i64 7, .int .i64 1, .int .i64 2, .int .i64 2, .int .i64 6, .nilS] ++ [.int .i64 1, .int .i64 4, .int .i64 7, .int .i64 1, .int .i64 2, .int .i64 2, .int .i64 6, .nilS]) 2 .ro, .sl [.int .i64 9] 1 .ro, .sl [.int .i64 5, .int .i64 6] 2 .ro] (st ++ [.cells [.int .i64 3, .int .i64 7, .int .i64 1, .int .i64 1], .cells [.int .i64 1, .int .i64 4, .int .i64 7, .int .i64 1, .int .i64 2, .int .i64 2, .int .i64 6, .nilS], .cells [.int .i64 4, .int .i64 9, .int .i64 2, .int .i64 2], .cells [.int .i64 4, .int .i64 9, .int .i64 2, .int .i64 2], .cells [.int .i64 2, .int .i64 0, .int .i64 0, .int .i64 0], .cells [.int .i64 3, .int .i64 7, .int .i64 1, .int .i64 1], .cells [.int .i64 0, .int .i64 0, .int .i64 0, .int .i64 0, .int .i64 0, .int .i64 0, .int .i64 0, .nilS]]) (.tup [.agg [.int .i64 4, .int .i64 9, .int .i64 2, .int .i64 2], .int .i64 1, .int .i64 9]) (st ++ [.cells [.int .i64 3, .int .i64 7, .int .i64 1, .int .i64 1], .cells [.int .i64 1, .int .i64 4, .int .i64 7, .int .i64 1, .int .i64 2, .int .i64 2, .int .i64 6, .nilS], .cells [.int .i64 4, .int .i64 9, .int .i64 2, .int .i64 2], .cells [.int .i64 4, .int .i64 9, .int .i64 2, .int .i64 2], .cells [.int .i64 2, .int .i64 0, .int .i64 0, .int .i64 0], .cells [.int .i64 3, .int .i64 7, .int .i64 1, .int .i64 1], .cells [.int .i64 0, .int .i64 0, .int .i64 0, .int .i64 0, .int .i64 0, .int .i64 0, .int .i64 0, .nilS]]) := by
    have := ((by repeat first | exact Or.inr ⟨rfl, rfl, vC0, 1, _, [vM0, vM0], .sl (isv [9]) 1 .ro, [9], .sl (isv [5, 6]) 2 .ro, [5, 6], vrow _ (.inl rfl), RowI.mk (.inl rfl) rfl, by simp, RowI.mk (.inl rfl) rfl, by simp, o7, rfl, rfl⟩ | refine Or.inl ?_) : O53 14 [.agg vC0.cells, .int .i64 1, .sl (vM0.cells ++ vM0.cells) 2 .ro, .sl (isv [9]) 1 .ro, .sl (isv [5, 6]) 2 .ro] (st ++ [.cells [.int .i64 3, .int .i64 7, .int .i64 1, .int .i64 1], .cells [.int .i64 1, .int .i64 4, .int .i64 7, .int .i64 1, .int .i64 2, .int .i64 2, .int .i64 6, .nilS], .cells [.int .i64 4, .int .i64 9, .int .i64 2, .int .i64 2], .cells [.int .i64 4, .int .i64 9, .int .i64 2, .int .i64 2], .cells [.int .i64 2, .int .i64 0, .int .i64 0, .int .i64 0], .cells [.int .i64 3, .int .i64 7, .int .i64 1, .int .i64 1], .cells [.int .i64 0, .int .i64 0, .int .i64 0, .int .i64 0, .int .i64 0, .int .i64 0, .int .i64 0, .nilS]]) (.tup [.agg (folF 1 [5, 6] vC0 [vM0, vM0] [9] 0).1.cells, .int .i64 (folF 1 [5, 6] vC0 [vM0, vM0] [9] 0).2.1, .int .i64 (folF 1 [5, 6] vC0 [vM0, vM0] [9] 0).2.2]) (st ++ [.cells [.int .i64 3, .int .i64 7, .int .i64 1, .int .i64 1], .cells [.int .i64 1, .int .i64 4, .int .i64 7, .int .i64 1, .int .i64 2, .int .i64 2, .int .i64 6, .nilS], .cells [.int .i64 4, .int .i64 9, .int .i64 2, .int .i64 2], .cells [.int .i64 4, .int .i64 9, .int .i64 2, .int .i64 2], .cells [.int .i64 2, .int .i64 0, .int .i64 0, .int .i64 0], .cells [.int .i64 3, .int .i64 7, .int .i64 1, .int .i64 1], .cells [.int .i64 0, .int .i64 0, .int .i64 0, .int .i64 0, .int .i64 0, .int .i64 0, .int .i64 0, .nilS]]))
    rw [v7] at this
    exact this
  simp (maxSteps := 2000000) (disch := first | omega | (simp only [List.length_append, List.length_cons, List.length_nil, List.length_map] <;> omega)) only [sf9, t0, cv_int, cell_int, getA0, ev_ldA, List.drop_zero, List.take_succ_cons, List.take_zero, List.set_cons_zero, List.set_cons_succ, apO_some, flg_bool, exc_bool, exc_int, exc_nilS, exc_agg, swp_seq, swp_reg, seqK_n, evK_some, appK_eq, srun_nil, srun_cons, stepK_call, swpF_eq, sk_give, sk_load, sk_store, sk_bld, sk_alloc, get_mk, raw_slot, raw_lit, put_some, put_none, wb_nil, ev_give, ev_bld, ev_alloc, ro_bool, ro_agg, ro1_int, got_int, got_bool, got_nilS, got_agg, pubs, pubsFrom, List.map_cons, List.map_nil, List.getD_cons_zero, List.getD_cons_succ, List.set_cons_zero, List.set_cons_succ, List.getElem?_cons_zero, List.length_cons, List.length_nil, List.replicate_succ, List.replicate_zero, List.nil_append, Nat.reduceAdd, Nat.reduceSub, Nat.reduceLeDiff, and_true, Bool.false_eq_true, Option.map_some, ↓reduceIte, List.all_cons, List.all_nil, Bool.and_self, List.zip_cons_cons, List.zip_nil_right, fillV, wrCells, Nat.zero_add, Nat.le_refl]
  refine callK_intro k1 ?_
  simp (maxSteps := 2000000) (disch := first | omega | (simp only [List.length_append, List.length_cons, List.length_nil, List.length_map] <;> omega)) only [t1, cv_int, cell_int, getA0, getA, ev_ldA, List.drop_zero, List.take_succ_cons, List.take_zero, List.append_assoc, List.set_cons_zero, List.set_cons_succ, pub_excl2, apO_some, flg_int, flg_agg, exc_int, exc_agg, exc_excl, swp_seq, swp_reg, seqK_n, evK_some, appK_eq, appC_eq, srun_nil, srun_cons, stepK_call, sk_mv, sk_give, sk_load, sk_store, sk_bsl, sk_alloc, sk_ext, get_mk, raw_slot, raw_lit, put_some, put_none, wb_nil, ev_mv, ev_give, ev_ext, ev_bsl, ev_alloc, ro_int, ro_agg, ro_tup, ro1_int, ro1_nilS, ro2_int, got_excl, got_int, got_agg, pubs, pubsFrom, List.map_cons, List.map_nil, List.getD_cons_zero, List.getD_cons_succ, List.set_cons_zero, List.set_cons_succ, List.getElem?_cons_zero, List.getElem?_cons_succ, List.length_cons, List.length_nil, List.replicate_succ, List.replicate_zero, List.cons_append, List.nil_append, Nat.reduceAdd, Nat.reduceLeDiff, Nat.reduceLT, and_true, Bool.false_eq_true, Option.map_some, ↓reduceIte, List.all_cons, List.all_nil, Bool.and_self, List.zip_cons_cons, List.zip_nil_right, rep, fillV, wrCells, List.flatten_cons, List.flatten_nil, List.append_nil, decide_true, Nat.mul_one, Nat.zero_add, List.length_append, Nat.le_refl]
  refine callK_intro k2 ?_
  simp (maxSteps := 2000000) (disch := first | omega | (simp only [List.length_append, List.length_cons, List.length_nil, List.length_map] <;> omega)) only [t2, cv_int, cell_int, getA, ev_ldA, List.drop_zero, List.take_succ_cons, List.take_zero, List.append_assoc, List.set_cons_zero, List.set_cons_succ, pub_excl2, apO_some, flg_int, flg_agg, exc_int, exc_agg, exc_excl, swp_seq, swp_reg, seqK_n, evK_some, appK_eq, appC_eq, srun_nil, srun_cons, stepK_call, sk_mv, sk_give, sk_load, sk_store, sk_bsl, sk_alloc, sk_ext, get_mk, raw_slot, raw_lit, put_some, put_none, wb_nil, wb_cons, ev_mv, ev_give, ev_ext, ev_bsl, ev_alloc, ro_int, ro_agg, ro_tup, ro1_int, ro1_nilS, ro2_int, got_excl, got_int, got_agg, pubs, pubsFrom, List.map_cons, List.map_nil, List.getD_cons_zero, List.getD_cons_succ, List.set_cons_zero, List.set_cons_succ, List.getElem?_cons_zero, List.getElem?_cons_succ, List.length_cons, List.length_nil, List.replicate_succ, List.replicate_zero, List.cons_append, List.nil_append, Nat.reduceAdd, Nat.reduceLeDiff, Nat.reduceLT, and_true, Bool.false_eq_true, Option.map_some, ↓reduceIte, List.all_cons, List.all_nil, Bool.and_self, List.zip_cons_cons, List.zip_nil_right, rep, fillV, wrCells, List.flatten_cons, List.flatten_nil, List.append_nil, decide_true, Nat.mul_one, Nat.zero_add, List.length_append, Nat.le_refl]
  refine callK_intro k3 ?_
  simp (maxSteps := 2000000) (disch := first | omega | (simp only [List.length_append, List.length_cons, List.length_nil, List.length_map] <;> omega)) only [t3, cv_int, cell_int, getA, ev_ldA, List.drop_zero, List.take_succ_cons, List.take_zero, List.append_assoc, List.set_cons_zero, List.set_cons_succ, apO_some, flg_int, flg_agg, exc_int, exc_nilS, exc_agg, swp_seq, swp_reg, seqK_n, evK_some, appK_eq, appC_eq, srun_nil, srun_cons, stepK_call, sk_mv, sk_give, sk_load, sk_store, sk_bld, sk_alloc, sk_ext, get_mk, raw_slot, raw_lit, put_some, put_none, wb_nil, wb_cons, ev_mv, ev_give, ev_ext, ev_bld, ev_alloc, ro_int, ro_agg, ro_tup, ro1_int, ro1_nilS, ro2_int, got_int, got_nilS, got_agg, pubs, pubsFrom, List.map_cons, List.map_nil, List.getD_cons_zero, List.getD_cons_succ, List.set_cons_zero, List.set_cons_succ, List.getElem?_cons_zero, List.getElem?_cons_succ, List.length_cons, List.length_nil, List.cons_append, List.nil_append, Nat.reduceAdd, Nat.reduceLeDiff, and_true, Bool.false_eq_true, Option.map_some, ↓reduceIte, List.all_cons, List.all_nil, Bool.and_self, List.zip_cons_cons, List.zip_nil_right, fillV, wrCells, Nat.zero_add, List.length_append, Nat.le_refl]
  refine callK_intro k4 ?_
  simp (maxSteps := 2000000) (disch := first | omega | (simp only [List.length_append, List.length_cons, List.length_nil, List.length_map] <;> omega)) only [t4, cv_int, cell_int, getA0, getA, ev_ldA, List.drop_zero, List.take_succ_cons, List.take_zero, List.append_assoc, List.set_cons_zero, List.set_cons_succ, pub_excl2, apO_some, flg_int, flg_agg, exc_int, exc_agg, exc_excl, swp_seq, swp_reg, seqK_n, evK_some, appK_eq, appC_eq, srun_nil, srun_cons, stepK_call, sk_mv, sk_give, sk_load, sk_store, sk_bsl, sk_alloc, sk_ext, get_mk, raw_slot, raw_lit, put_some, put_none, wb_nil, ev_mv, ev_give, ev_ext, ev_bsl, ev_alloc, ro_int, ro_agg, ro_tup, ro1_int, ro1_nilS, ro2_int, got_excl, got_int, got_agg, pubs, pubsFrom, List.map_cons, List.map_nil, List.getD_cons_zero, List.getD_cons_succ, List.set_cons_zero, List.set_cons_succ, List.getElem?_cons_zero, List.getElem?_cons_succ, List.length_cons, List.length_nil, List.replicate_succ, List.replicate_zero, List.cons_append, List.nil_append, Nat.reduceAdd, Nat.reduceLeDiff, Nat.reduceLT, and_true, Bool.false_eq_true, Option.map_some, ↓reduceIte, List.all_cons, List.all_nil, Bool.and_self, List.zip_cons_cons, List.zip_nil_right, rep, fillV, wrCells, List.flatten_cons, List.flatten_nil, List.append_nil, decide_true, Nat.mul_one, Nat.zero_add, List.length_append, Nat.le_refl]
  refine callK_intro k5 ?_
  simp (maxSteps := 2000000) (disch := first | omega | (simp only [List.length_append, List.length_cons, List.length_nil, List.length_map] <;> omega)) only [t5, cv_int, cell_int, List.append_assoc, List.set_cons_zero, List.set_cons_succ, flg_int, flg_agg, exc_bool, exc_int, exc_nilS, exc_agg, swp_seq, swp_reg, seqK_n, evK_some, appK_eq, appC_eq, srun_nil, srun_cons, stepK_call, sk_mv, sk_give, sk_store, sk_bld, sk_alloc, sk_ext, get_mk, raw_slot, raw_lit, put_some, put_none, wb_nil, wb_cons, ev_mv, ev_give, ev_ext, ev_bld, ev_alloc, ro_int, ro_agg, ro_tup, ro1_int, ro2_int, got_int, got_bool, got_nilS, got_agg, pubs, pubsFrom, List.map_cons, List.map_nil, List.getD_cons_zero, List.getD_cons_succ, List.set_cons_zero, List.set_cons_succ, List.getElem?_cons_zero, List.getElem?_cons_succ, List.length_cons, List.length_nil, List.cons_append, List.nil_append, Nat.reduceAdd, Nat.reduceLeDiff, and_true, Bool.false_eq_true, Option.map_some, ↓reduceIte, List.all_cons, List.all_nil, Bool.and_self, List.zip_cons_cons, List.zip_nil_right, fillV, wrCells, Nat.zero_add, List.length_append]
  refine callK_intro k6 ?_
  simp (maxSteps := 2000000) (disch := first | omega | (simp only [List.length_append, List.length_cons, List.length_nil, List.length_map] <;> omega)) only [t6, cv_agg, cv_int, cell_int, cell_nilS, getA0, getA, ev_ldA, List.drop_zero, List.take_succ_cons, List.take_zero, List.append_assoc, List.set_cons_zero, List.set_cons_succ, pub_excl2, apO_some, flg_int, flg_agg, exc_int, exc_agg, exc_excl, swp_seq, swp_reg, seqK_n, evK_some, appK_eq, appC_eq, srun_nil, srun_cons, stepK_call, sk_mv, sk_give, sk_load, sk_store, sk_bsl, sk_alloc, sk_ext, get_mk, raw_slot, raw_lit, put_some, put_none, wb_nil, ev_mv, ev_give, ev_ext, ev_bsl, ev_alloc, ro_int, ro_agg, ro_tup, ro1_int, ro1_nilS, ro2_int, got_excl, got_int, got_agg, pubs, pubsFrom, List.map_cons, List.map_nil, List.getD_cons_zero, List.getD_cons_succ, List.set_cons_zero, List.set_cons_succ, List.getElem?_cons_zero, List.getElem?_cons_succ, List.length_cons, List.length_nil, List.replicate_succ, List.replicate_zero, List.cons_append, List.nil_append, Nat.reduceAdd, Nat.reduceMul, Nat.reduceLeDiff, Nat.reduceLT, and_true, Bool.false_eq_true, Option.map_some, ↓reduceIte, List.all_cons, List.all_nil, Bool.and_self, List.zip_cons_cons, List.zip_nil_right, rep, fillV, wrCells, List.flatten_cons, List.flatten_nil, List.append_nil, decide_true, Nat.zero_mul, Nat.mul_one, Nat.zero_add, List.length_append, Nat.le_refl]
  refine callK_intro k7 ?_
  simp (maxSteps := 2000000) (disch := first | omega | (simp only [List.length_append, List.length_cons, List.length_nil, List.length_map] <;> omega)) only [t7, cv_int, eq_four, cell_int, getA, ev_ldA, List.drop_zero, List.take_succ_cons, List.take_zero, List.append_assoc, List.set_cons_zero, List.set_cons_succ, apO_some, flg_int, flg_agg, exc_int, swp_seq, swp_reg, seqK_n, evK_some, appK_eq, appC_eq, grd_t, srun_nil, srun_cons, stepK_call, stepK_grd, sk_mv, sk_take, sk_give, sk_pick, sk_bin, sk_eqA, sk_fld, sk_load, sk_store, sk_bld, sk_alloc, sk_ext, get_mk, raw_slot, raw_lit, put_some, put_none, wb_nil, wb_cons, ev_mv, ev_take, ev_give, ev_pick, ev_fld, ev_ext, bin_eql, ev_bld, ev_alloc, ev_ldP, ldP_some, ro_int, ro_bool, ro_agg, ro_tup, ro1_int, ro2_int, got_int, pubs, pubsFrom, List.map_cons, List.map_nil, List.getD_cons_zero, List.getD_cons_succ, List.set_cons_zero, List.set_cons_succ, List.getElem?_cons_zero, List.getElem?_cons_succ, List.length_cons, List.length_nil, List.cons_append, List.nil_append, Nat.reduceAdd, Nat.reduceLeDiff, and_true, Bool.false_eq_true, Option.map_some, ↓reduceIte, List.all_cons, List.all_nil, Bool.and_self, List.zip_cons_cons, List.zip_nil_right, fillV, wrCells, Nat.zero_add, beq_self_eq_true, List.length_append, Nat.le_refl]
  refine callK_intro r13 ?_
  simp (maxSteps := 2000000) (disch := first | omega | (simp only [List.length_append, List.length_cons, List.length_nil, List.length_map] <;> omega)) only [List.set_cons_zero, List.set_cons_succ, exc_int, evK_some, appK_eq, appC_eq, grd_t, srun_cons, stepK_call, stepK_grd, sk_mv, sk_pick, get_mk, raw_slot, raw_lit, put_some, wb_nil, ev_mv, ev_pick, ro_bool, got_int, pubs, pubsFrom, List.map_cons, List.map_nil, List.getD_cons_zero, List.getD_cons_succ, List.set_cons_zero, List.set_cons_succ, Bool.false_eq_true, ↓reduceIte, beq_self_eq_true]
  refine callK_intro r13 ?_
  simp (maxSteps := 2000000) (disch := first | omega | (simp only [List.length_append, List.length_cons, List.length_nil, List.length_map] <;> omega)) only [List.set_cons_zero, List.set_cons_succ, flg_bool, swp_ret, seqK_n, evK_some, appK_eq, appC_eq, grd_t, srun_nil, srun_cons, stepK_grd, fin_ret, sk_give, sk_pick, sk_un, get_mk, raw_slot, raw_lit, put_some, wb_nil, ev_give, ev_pick, ev_not, ro_bool, List.map_cons, List.map_nil, List.getD_cons_zero, List.getD_cons_succ, List.set_cons_zero, List.set_cons_succ, true_and, Bool.false_eq_true, ↓reduceIte, Bool.not_false, Int.reduceBEq]
  first | exact ⟨_, trim1 ho rfl⟩ | exact ⟨_, trim1 ho rfl, rfl⟩ | exact ⟨_, trim1 ho rfl, rfl, rfl⟩ | exact ⟨_, trim1 ho rfl, by simp, rfl⟩ | exact ⟨_, trim1 ho rfl, by simp⟩
def O54 : Orc := O53.add 9 (StC fun st args r => okSt st ∧ args = [] ∧ r = .bool true)
theorem s54 : Sound Tryd.prog O54 := s53.addS c9 (by kernel_rfl) (by
  rintro args r st ⟨ho, rfl, rfl⟩
  exact ⟨by simp [sf9], g9 st ho⟩)
end Go.Sh.F
