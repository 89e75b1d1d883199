/-
  The small case of the vault, in the shadow machine.
-/
import Derived.Test.YtmbaokfcdfhfeaaV5
set_option linter.unusedSimpArgs false
set_option linter.unusedVariables false
namespace Go.Sh.F
/-- One vault, behind other objects. -/
def Sp (pre : List Ob) (V : VS) : List Ob := At pre pre.length V []
theorem okSt_more {a b : List Ob} (h : okSt a) (hb : b.all (obOk (a ++ b).length) = true) : okSt (a ++ b) := by
  unfold okSt at *
  rw [List.all_append, hb, Bool.and_true, List.all_eq_true]
  rw [List.all_eq_true] at h
  intro x hx
  have := h x hx
  cases x with
  | cells l => exact idOks_mono (by simp) l this
  | map l =>
    simp only [obOk, List.all_eq_true, Bool.and_eq_true] at this ⊢
    intro p hp
    exact ⟨idOk_mono (by simp) _ (this p hp).1, idOk_mono (by simp) _ (this p hp).2⟩
theorem Sp_ok {pre : List Ob} (h : okSt pre) (V : VS) : okSt (Sp pre V) := by
  show okSt (pre ++ (vobs pre.length V ++ []))
  rw [List.append_nil]
  exact okSt_more h (vobs_ok (by simp [vobs]))
theorem Sp_trim {pre : List Ob} (h : okSt pre) (V : VS) {vs : List SV} (hv : idOks pre.length vs = true) : Trim pre.length (Sp pre V) pre vs := trim1 h hv
section
variable {pre : List Ob} {p : Nat} {V V' : VS} {key x a e n nonce : Int} {ad plain y label : List UInt8}
theorem h12 (st : List Ob) : O48 12 [] st (.ptr (st.length + 3) 0) (Sp st V0) := .inl (g12 st)
theorem h13 (ho : okSt pre) (hp : p = pre.length + 3) (hl : V.s.length < 4294967296) (hr : sealF V key ad plain nonce = ((a, e), V')) : O48 13 [.ptr p 0, .int .i64 key, .str ad, .str plain, .int .i64 nonce] (Sp pre V) (.tup [.int .i64 a, .int .i64 e]) (Sp pre V') := by
  subst hp; exact .inl (g13 rfl (Sp_ok ho V) hl hr)
theorem h15 (ho : okSt pre) (hp : p = pre.length + 3) (hr : openF V key ad x = (y, e)) : O48 15 [.ptr p 0, .int .i64 key, .str ad, .int .i64 x] (Sp pre V) (.tup [.str y, .int .i64 e]) (Sp pre V) := by
  subst hp; exact .inl (g15 rfl (Sp_ok ho V) hr)
theorem h19 (ho : okSt pre) (hp : p = pre.length + 3) (hr : szF V x = n) : O48 19 [.ptr p 0, .int .i64 x] (Sp pre V) (.int .i64 n) (Sp pre V) := by
  subst hp; exact .inl (g19 rfl (Sp_ok ho V) hr)
theorem h17 (ho : okSt pre) (hp : p = pre.length + 3) (hl : V.t.length < 4294967296) (hr : nameF V key label nonce = ((a, e), V')) : O48 17 [.ptr p 0, .int .i64 key, .str label, .int .i64 nonce] (Sp pre V) (.tup [.int .i64 a, .int .i64 e]) (Sp pre V') := by
  subst hp; exact .inl (g17 rfl (Sp_ok ho V) hl hr)
theorem h21 (hp : p = pre.length + 3) : O48 21 [.ptr p 0] (Sp pre V) (.int .i64 V.s.length) (Sp pre V) := by
  subst hp; exact .inl (g21 rfl)
theorem h22 (hp : p = pre.length + 3) : O48 22 [.ptr p 0] (Sp pre V) (.int .i64 V.n.length) (Sp pre V) := by
  subst hp; exact .inl (g22 rfl)
end
theorem few_ok {v : SV} {l : List Cl} (hv : rdR fC v l) (hl : l.length ≤ 1099511627776) (hs : ∀ c ∈ l, c.ad.length ≤ 1099511627776 ∧ c.plain.length ≤ 1099511627776) (st : List Ob) : O48 11 [v] st (.bool (fewF l)) st := .inr ⟨rfl, v, l, hv, hl, hs, rfl, rfl, rfl⟩
def w1 : VS := ⟨[(9, 1, [97], [120])], [], []⟩
def w2 : VS := ⟨[(9, 1, [97], [120]), (10, 1, [97], [121])], [], []⟩
def w3 : VS := ⟨[(9, 1, [97], [120]), (10, 1, [97], [121])], [((1, [109]), 4294967295)], [(4294967295, true)]⟩
def w4 : VS := ⟨[(9, 1, [97], [120]), (10, 1, [97], [121])], [((1, [109]), 4294967295), ((2, [109]), 0)], [(4294967295, true), (0, true)]⟩
set_option maxHeartbeats 2000000 in
set_option maxRecDepth 50000 in
theorem k10 (st : List Ob) (ho : okSt st) : swpF O48 sf10 [] st (fun r st' => r = .bool true ∧ st' = st) := by
  simp (maxSteps := 2000000) (disch := first | omega | (simp only [List.length_append, List.length_cons, List.length_nil, List.length_map] <;> omega)) only [sf10, flg_bool, swp_seq, swp_reg, seqK_n, evK_some, appK_eq, srun_nil, srun_cons, stepK_call, swpF_eq, sk_give, raw_lit, put_some, wb_nil, ev_give, ro_bool, pubs, pubsFrom, List.map_cons, List.map_nil, List.set_cons_zero, List.length_nil, List.replicate_succ, List.replicate_zero, List.nil_append, Nat.reduceSub, Bool.false_eq_true, ↓reduceIte, Int.reduceNeg]
  refine callK_intro (h12 st) ?_
  simp (maxSteps := 2000000) (disch := first | omega | (simp only [List.length_append, List.length_cons, List.length_nil, List.length_map] <;> omega)) only [flg_ptr, exc_int, exc_str, exc_ptr, swp_seq, swp_reg, swp_skip, swp_cond, seqK_n, condK_f, evK_some, appK_eq, appC_eq, srun_nil, srun_cons, stepK_call, sk_mv, sk_give, sk_eqN, get_mk, raw_slot, raw_lit, put_some, wb_nil, ev_mv, ev_give, ev_eqNp2, ro_ptr, got_int, got_str, got_ptr, pubs, pubsFrom, List.map_cons, List.map_nil, List.getD_cons_zero, List.getD_cons_succ, List.set_cons_zero, List.set_cons_succ, Bool.false_eq_true, ↓reduceIte, Int.reduceNeg]
  refine callK_intro (h13 ho rfl (a := 9) (e := 0) (V' := w1) (by decide) (by kernel_rfl)) ?_
  simp (maxSteps := 2000000) (disch := first | omega | (simp only [List.length_append, List.length_cons, List.length_nil, List.length_map] <;> omega)) only [flg_int, exc_int, exc_str, exc_ptr, swp_seq, swp_reg, seqK_n, evK_some, appK_eq, appC_eq, srun_nil, srun_cons, stepK_call, sk_mv, sk_give, sk_ext, get_mk, raw_slot, raw_lit, put_some, wb_nil, ev_mv, ev_give, ev_ext, ro_int, ro_ptr, ro_tup, ro2_int, got_int, got_str, got_ptr, pubs, pubsFrom, List.map_cons, List.map_nil, List.getD_cons_zero, List.getD_cons_succ, List.set_cons_zero, List.set_cons_succ, List.getElem?_cons_zero, List.getElem?_cons_succ, Bool.false_eq_true, Option.map_some, ↓reduceIte, Int.reduceNeg]
  refine callK_intro (h13 ho rfl (a := 10) (e := 0) (V' := w2) (by decide) (by kernel_rfl)) ?_
  simp (maxSteps := 2000000) (disch := first | omega | (simp only [List.length_append, List.length_cons, List.length_nil, List.length_map] <;> omega)) only [flg_int, exc_int, exc_str, exc_ptr, swp_seq, swp_reg, seqK_n, evK_some, appK_eq, appC_eq, srun_nil, srun_cons, stepK_call, sk_mv, sk_give, sk_ext, get_mk, raw_slot, raw_lit, put_some, wb_nil, ev_mv, ev_give, ev_ext, ro_int, ro_ptr, ro_tup, ro2_int, got_int, got_str, got_ptr, pubs, pubsFrom, List.map_cons, List.map_nil, List.getD_cons_zero, List.getD_cons_succ, List.set_cons_zero, List.set_cons_succ, List.getElem?_cons_zero, List.getElem?_cons_succ, Bool.false_eq_true, Option.map_some, ↓reduceIte, Int.reduceNeg]
  refine callK_intro (h15 ho rfl (y := [120]) (e := 0) (by kernel_rfl)) ?_
  simp (maxSteps := 2000000) (disch := first | omega | (simp only [List.length_append, List.length_cons, List.length_nil, List.length_map] <;> omega)) only [flg_int, flg_str, exc_int, exc_str, exc_ptr, swp_seq, swp_reg, seqK_n, evK_some, appK_eq, appC_eq, srun_nil, srun_cons, stepK_call, sk_mv, sk_give, sk_ext, get_mk, raw_slot, raw_lit, put_some, wb_nil, ev_mv, ev_give, ev_ext, ro_int, ro_str, ro_ptr, ro_tup, ro2_int, ro2_str, got_int, got_str, got_ptr, pubs, pubsFrom, List.map_cons, List.map_nil, List.getD_cons_zero, List.getD_cons_succ, List.set_cons_zero, List.set_cons_succ, List.getElem?_cons_zero, List.getElem?_cons_succ, Bool.false_eq_true, Option.map_some, ↓reduceIte, Int.reduceNeg]
  refine callK_intro (h15 ho rfl (y := []) (e := 7) (by kernel_rfl)) ?_
  simp (maxSteps := 2000000) (disch := first | omega | (simp only [List.length_append, List.length_cons, List.length_nil, List.length_map] <;> omega)) only [flg_int, flg_str, exc_int, exc_str, exc_ptr, swp_seq, swp_reg, seqK_n, evK_some, appK_eq, appC_eq, srun_nil, srun_cons, stepK_call, sk_mv, sk_give, sk_ext, get_mk, raw_slot, raw_lit, put_some, wb_nil, ev_mv, ev_give, ev_ext, ro_int, ro_str, ro_ptr, ro_tup, ro2_int, ro2_str, got_int, got_str, got_ptr, pubs, pubsFrom, List.map_cons, List.map_nil, List.getD_cons_zero, List.getD_cons_succ, List.set_cons_zero, List.set_cons_succ, List.getElem?_cons_zero, List.getElem?_cons_succ, Bool.false_eq_true, Option.map_some, ↓reduceIte, Int.reduceNeg]
  refine callK_intro (h15 ho rfl (y := []) (e := 7) (by kernel_rfl)) ?_
  simp (maxSteps := 2000000) (disch := first | omega | (simp only [List.length_append, List.length_cons, List.length_nil, List.length_map] <;> omega)) only [flg_int, flg_str, exc_int, exc_str, exc_ptr, swp_seq, swp_reg, seqK_n, evK_some, appK_eq, appC_eq, srun_nil, srun_cons, stepK_call, sk_mv, sk_give, sk_ext, get_mk, raw_slot, raw_lit, put_some, wb_nil, ev_mv, ev_give, ev_ext, ro_int, ro_str, ro_ptr, ro_tup, ro2_int, ro2_str, got_int, got_str, got_ptr, pubs, pubsFrom, List.map_cons, List.map_nil, List.getD_cons_zero, List.getD_cons_succ, List.set_cons_zero, List.set_cons_succ, List.getElem?_cons_zero, List.getElem?_cons_succ, Bool.false_eq_true, Option.map_some, ↓reduceIte, Int.reduceNeg]
  refine callK_intro (h17 ho rfl (a := 4294967295) (e := 0) (V' := w3) (by decide) (by kernel_rfl)) ?_
  simp (maxSteps := 2000000) (disch := first | omega | (simp only [List.length_append, List.length_cons, List.length_nil, List.length_map] <;> omega)) only [flg_int, exc_int, exc_str, exc_ptr, swp_seq, swp_reg, seqK_n, evK_some, appK_eq, appC_eq, srun_nil, srun_cons, stepK_call, sk_mv, sk_give, sk_ext, get_mk, raw_slot, raw_lit, put_some, wb_nil, ev_mv, ev_give, ev_ext, ro_int, ro_ptr, ro_tup, ro2_int, got_int, got_str, got_ptr, pubs, pubsFrom, List.map_cons, List.map_nil, List.getD_cons_zero, List.getD_cons_succ, List.set_cons_zero, List.set_cons_succ, List.getElem?_cons_zero, List.getElem?_cons_succ, Bool.false_eq_true, Option.map_some, ↓reduceIte, Int.reduceNeg]
  refine callK_intro (h17 ho rfl (a := 0) (e := 0) (V' := w4) (by decide) (by kernel_rfl)) ?_
  simp (maxSteps := 2000000) (disch := first | omega | (simp only [List.length_append, List.length_cons, List.length_nil, List.length_map] <;> omega)) only [flg_int, exc_int, exc_str, exc_ptr, swp_seq, swp_reg, seqK_n, evK_some, appK_eq, appC_eq, srun_nil, srun_cons, stepK_call, sk_mv, sk_give, sk_ext, get_mk, raw_slot, raw_lit, put_some, wb_nil, ev_mv, ev_give, ev_ext, ro_int, ro_ptr, ro_tup, ro2_int, got_int, got_str, got_ptr, pubs, pubsFrom, List.map_cons, List.map_nil, List.getD_cons_zero, List.getD_cons_succ, List.set_cons_zero, List.set_cons_succ, List.getElem?_cons_zero, List.getElem?_cons_succ, Bool.false_eq_true, Option.map_some, ↓reduceIte, Int.reduceNeg]
  refine callK_intro (h17 ho rfl (a := 4294967295) (e := 0) (V' := w4) (by decide) (by kernel_rfl)) ?_
  simp (maxSteps := 2000000) (disch := first | omega | (simp only [List.length_append, List.length_cons, List.length_nil, List.length_map] <;> omega)) only [grd_t, ev_pick, flg_int, exc_int, exc_str, exc_ptr, swp_seq, swp_reg, seqK_n, evK_some, appK_eq, appC_eq, grd_t, srun_nil, srun_cons, stepK_call, stepK_grd, sk_mv, sk_take, sk_give, sk_pick, sk_bin, sk_ext, get_mk, raw_slot, raw_lit, put_some, wb_nil, ev_mv, ev_take, ev_give, ev_pick, ev_ext, bin_eql, bin_eqlS, ro_int, ro_bool, ro_tup, ro2_int, got_int, got_str, got_ptr, pubs, pubsFrom, List.map_cons, List.map_nil, List.getD_cons_zero, List.getD_cons_succ, List.set_cons_zero, List.set_cons_succ, List.getElem?_cons_zero, List.getElem?_cons_succ, Bool.false_eq_true, Option.map_some, ↓reduceIte, beq_self_eq_true]
  refine callK_intro (h19 ho rfl (n := 80) (by kernel_rfl)) ?_
  simp (maxSteps := 2000000) (disch := first | omega | (simp only [List.length_append, List.length_cons, List.length_nil, List.length_map] <;> omega)) only [grd_t, ev_pick, exc_int, exc_ptr, evK_some, appK_eq, appC_eq, grd_t, srun_cons, stepK_call, stepK_grd, sk_mv, sk_take, sk_pick, sk_bin, get_mk, raw_slot, raw_lit, put_some, wb_nil, ev_mv, ev_take, ev_pick, bin_eql, ro_bool, got_int, got_ptr, pubs, pubsFrom, List.map_cons, List.map_nil, List.getD_cons_zero, List.getD_cons_succ, List.set_cons_zero, List.set_cons_succ, Bool.false_eq_true, ↓reduceIte, beq_self_eq_true]
  refine callK_intro (h19 ho rfl (n := 0) (by kernel_rfl)) ?_
  simp (maxSteps := 2000000) (disch := first | omega | (simp only [List.length_append, List.length_cons, List.length_nil, List.length_map] <;> omega)) only [grd_t, ev_pick, exc_ptr, evK_some, appK_eq, appC_eq, grd_t, srun_cons, stepK_call, stepK_grd, sk_mv, sk_take, sk_pick, sk_bin, get_mk, raw_slot, raw_lit, put_some, wb_nil, ev_mv, ev_take, ev_pick, bin_eql, ro_bool, got_ptr, pubs, pubsFrom, List.map_cons, List.map_nil, List.getD_cons_zero, List.getD_cons_succ, List.set_cons_zero, List.set_cons_succ, Bool.false_eq_true, ↓reduceIte, beq_self_eq_true]
  refine callK_intro (h21 rfl) ?_
  simp (maxSteps := 2000000) (disch := first | omega | (simp only [List.length_append, List.length_cons, List.length_nil, List.length_map] <;> omega)) only [show w4.s.length = 2 from rfl, grd_t, ev_pick, exc_ptr, evK_some, appK_eq, appC_eq, grd_t, srun_cons, stepK_call, stepK_grd, sk_mv, sk_take, sk_pick, sk_bin, get_mk, raw_slot, raw_lit, put_some, wb_nil, ev_mv, ev_take, ev_pick, bin_eql, ro_bool, got_ptr, pubs, pubsFrom, List.map_cons, List.map_nil, List.getD_cons_zero, List.getD_cons_succ, List.set_cons_zero, List.set_cons_succ, Bool.false_eq_true, ↓reduceIte, beq_self_eq_true, Int.cast_ofNat_Int]
  refine callK_intro (h22 rfl) ?_
  simp (maxSteps := 2000000) (disch := first | omega | (simp only [List.length_append, List.length_cons, List.length_nil, List.length_map] <;> omega)) only [show w4.n.length = 2 from rfl, grd_t, ev_pick, flg_bool, swp_ret, seqK_n, evK_some, appK_eq, appC_eq, grd_t, srun_nil, srun_cons, stepK_grd, fin_ret, sk_give, sk_pick, sk_bin, get_mk, raw_slot, raw_lit, put_some, wb_nil, ev_give, ev_pick, bin_eql, ro_bool, List.map_cons, List.map_nil, List.getD_cons_zero, List.getD_cons_succ, List.set_cons_zero, List.set_cons_succ, true_and, Bool.false_eq_true, ↓reduceIte, beq_self_eq_true, Int.cast_ofNat_Int]
  exact ⟨st, Sp_trim ho _ rfl, rfl⟩
def K10 : List SV → List Ob → SV → List Ob → Prop := fun args st r st' => okSt st ∧ args = [] ∧ r = .bool true ∧ st' = st
def O49 : Orc := O48.add 10 K10
theorem s49 : Sound Proofs.Try.prog O49 := s48.add c10 (by kernel_rfl) (by
  rintro args st r st' ⟨ho, rfl, rfl, rfl⟩
  exact ⟨by simp [sf10], k10 _ ho⟩)
theorem h10 {st : List Ob} (ho : okSt st) : O49 10 [] st (.bool true) st := .inr ⟨rfl, ho, rfl, rfl, rfl⟩
end Go.Sh.F
