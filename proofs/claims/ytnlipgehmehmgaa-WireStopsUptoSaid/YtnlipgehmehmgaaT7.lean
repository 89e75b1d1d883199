/-
  Read, Fits, and rows of strings, in the shadow machine.
-/
import Derived.Test.YtnlipgehmehmgaaT6
set_option linter.unusedSimpArgs false
set_option linter.unusedVariables false
namespace Go.Sh.F
def rdW : SV → SV | .sl xs n _ => .sl xs n .ro | v => v
theorem rdW_rdv {v : SV} {l : List UInt8} (hv : isBs v l) : rdv (rdW v) l := by
  rcases hv with ⟨rfl, rfl⟩ | ⟨f, hf, rfl⟩
  · exact .inl ⟨rfl, rfl⟩
  · exact .inr rfl
theorem f21 (v : SV) (l : List UInt8) (hv : isBs v l) (hl : l.length ≤ 1099511627776) (st : List Ob) : swpF O9 sf21 [v] st (fun r st' => r = .ptr st.length 0 ∧ st' = st ++ [.cells [rdW v, .int .i64 0, .int .i64 0]]) := by
  have old : ∀ {args r st'}, C33 args st r st' → O9 33 args st r st' := fun h => .inl (.inl (.inl (.inl (.inl (.inl (.inl (.inl (.inr ⟨rfl, h⟩))))))))
  rcases hv with ⟨rfl, rfl⟩ | ⟨f, hf, rfl⟩
  · simp only [sf21, swp_seq, swp_reg, seqK_n, evK_some, appK_eq, srun_nil, srun_cons, stepK_call, swpF_eq, sk_mv, sk_give, get_mk, raw_slot, raw_lit, put_some, wb_nil, ev_mv, ev_give, ro_nilS, ro_nilP, got_nilS, flg, exc, pubs, pubsFrom, List.map_cons, List.map_nil, List.getD_cons_zero, List.set_cons_zero, List.set_cons_succ, List.length_cons, List.length_nil, List.replicate_succ, List.replicate_zero, List.cons_append, List.nil_append, Nat.reduceSub, Bool.false_eq_true, ↓reduceIte, Nat.zero_add]
    refine callK_intro (old ⟨rfl, .inl ⟨rfl, rfl⟩⟩) ?_
    simp only [swp_ret, seqK_n, evK_some, appK_eq, appC_eq, srun_nil, srun_cons, fin_ret, sk_give, sk_bld, sk_box, get_mk, raw_slot, put_some, wb_nil, ev_give, ev_bld, ev_box, ro_ptr, ro1_int, ro1_nilS, got_nilS, got_agg, flg, exc, pubs, pubsFrom, List.map_cons, List.map_nil, List.getD_cons_zero, List.getD_cons_succ, List.set_cons_zero, List.set_cons_succ, List.length_cons, List.length_nil, Nat.reduceAdd, Nat.reduceLeDiff, true_and, and_true, Bool.false_eq_true, Option.map_some, ↓reduceIte, List.all_cons, List.all_nil, Bool.and_self, List.zip_cons_cons, List.zip_nil_right, fillV, wrCells, cellsV, isCell, Nat.zero_add]
    exact ⟨_, .same, rfl⟩
  · rcases hf with rfl | rfl
    · simp only [sf21, swp_seq, swp_reg, seqK_n, evK_some, appK_eq, srun_nil, srun_cons, stepK_call, swpF_eq, sk_mv, sk_give, get_mk, raw_slot, raw_lit, put_some, wb_nil, ev_mv, ev_give, ro_nilP, ro_ro, got_roo, flg, exc, pubs, pubsFrom, List.map_cons, List.map_nil, List.getD_cons_zero, List.set_cons_zero, List.set_cons_succ, List.length_cons, List.length_nil, List.replicate_succ, List.replicate_zero, List.cons_append, List.nil_append, Nat.reduceSub, Bool.false_eq_true, ↓reduceIte, Nat.zero_add]
      refine callK_intro (old ⟨rfl, .inr ⟨bsv l, l.length, .ro, .inl rfl, bsv_len l, hl, rfl, rfl⟩⟩) ?_
      simp only [swp_ret, seqK_n, evK_some, appK_eq, appC_eq, srun_nil, srun_cons, fin_ret, sk_give, sk_bld, sk_box, get_mk, raw_slot, put_some, wb_nil, wb_cons, ev_give, ev_bld, ev_box, ro_ptr, ro1_int, ro1_ro, got_excl, got_agg, pub_excl, flg, exc, pubs, pubsFrom, List.map_cons, List.map_nil, List.getD_cons_zero, List.getD_cons_succ, List.set_cons_zero, List.set_cons_succ, List.getElem?_cons_zero, List.length_cons, List.length_nil, Nat.reduceAdd, Nat.reduceLeDiff, true_and, and_true, Bool.false_eq_true, Option.map_some, ↓reduceIte, List.all_cons, List.all_nil, Bool.and_self, List.zip_cons_cons, List.zip_nil_right, fillV, wrCells, cellsV, isCell, Nat.zero_add]
      exact ⟨_, .same, rfl⟩
    · simp only [sf21, swp_seq, swp_reg, seqK_n, evK_some, appK_eq, srun_nil, srun_cons, stepK_call, swpF_eq, sk_mv, sk_give, get_mk, raw_slot, raw_lit, put_some, wb_nil, ev_mv, ev_give, ro_nilP, ro_full, got_full, flg, exc, pubs, pubsFrom, List.map_cons, List.map_nil, List.getD_cons_zero, List.set_cons_zero, List.set_cons_succ, List.length_cons, List.length_nil, List.replicate_succ, List.replicate_zero, List.cons_append, List.nil_append, Nat.reduceSub, Bool.false_eq_true, ↓reduceIte, Nat.zero_add]
      refine callK_intro (old ⟨rfl, .inr ⟨bsv l, l.length, .full, .inr rfl, bsv_len l, hl, rfl, rfl⟩⟩) ?_
      simp only [swp_ret, seqK_n, evK_some, appK_eq, appC_eq, srun_nil, srun_cons, fin_ret, sk_give, sk_bld, sk_box, get_mk, raw_slot, put_some, wb_nil, wb_cons, ev_give, ev_bld, ev_box, ro_ptr, ro1_int, ro1_ro, got_excl, got_agg, pub_excl, flg, exc, pubs, pubsFrom, List.map_cons, List.map_nil, List.getD_cons_zero, List.getD_cons_succ, List.set_cons_zero, List.set_cons_succ, List.getElem?_cons_zero, List.length_cons, List.length_nil, Nat.reduceAdd, Nat.reduceLeDiff, true_and, and_true, Bool.false_eq_true, Option.map_some, ↓reduceIte, List.all_cons, List.all_nil, Bool.and_self, List.zip_cons_cons, List.zip_nil_right, fillV, wrCells, cellsV, isCell, Nat.zero_add]
      exact ⟨_, .same, rfl⟩
def C21 : List SV → List Ob → SV → List Ob → Prop := fun args st r st' => ∃ v l, isBs v l ∧ l.length ≤ 1099511627776 ∧ args = [v] ∧ r = .ptr st.length 0 ∧ st' = st ++ [.cells [rdW v, .int .i64 0, .int .i64 0]]
def O10 : Orc := O9.add 21 C21
theorem s10 : Sound Proofs.Try.prog O10 := s9.add c21 (by kernel_rfl) (by
  rintro args st r st' ⟨v, l, hv, hl, rfl, rfl, rfl⟩
  exact ⟨by simp [sf21], f21 v l hv hl st⟩)
theorem f19 (O : Orc) (s : List UInt8) (n : Int) (st : List Ob) : swpF O sf19 [.str s, .int .i64 n] st (fun r st' => r = .bool (decide ((s.length : Int) ≤ minI n 16384)) ∧ st' = st) := by
  have hm : (if (16384 : Int) < n then 16384 else n) = minI n 16384 := rfl
  simp only [sf19, hm, swp_seq, swp_reg, swp_ret, seqK_n, evK_some, appK_eq, srun_nil, srun_cons, fin_ret, swpF_eq, sk_mv, sk_give, sk_bin, sk_lenS, sk_min, get_mk, raw_slot, raw_lit, put_some, wb_nil, ev_mv, ev_give, ev_lenS, ev_min, bin_leq, ro_int, ro_bool, ro_str, flg, List.map_cons, List.map_nil, List.getD_cons_zero, List.getD_cons_succ, List.set_cons_zero, List.set_cons_succ, List.length_cons, List.length_nil, List.replicate_succ, List.replicate_zero, List.cons_append, List.nil_append, Nat.reduceAdd, Nat.reduceSub, true_and, Bool.false_eq_true, ↓reduceIte, Nat.zero_add]
  exact ⟨_, .same, rfl⟩
def C19 : List SV → List Ob → SV → List Ob → Prop := fun args st r st' => ∃ s n, args = [.str s, .int .i64 n] ∧ r = .bool (decide ((s.length : Int) ≤ minI n 16384)) ∧ st' = st
def O11 : Orc := O10.add 19 C19
theorem s11 : Sound Proofs.Try.prog O11 := s10.add c19 (by kernel_rfl) (by
  rintro args st r st' ⟨s, n, rfl, rfl, rfl⟩
  exact ⟨by simp [sf19], f19 _ s n _⟩)
/-! Rows of strings. -/
def ssv (l : List (List UInt8)) : List SV := l.map .str
def isSs (v : SV) (l : List (List UInt8)) : Prop := (v = .nilS ∧ l = []) ∨ ∃ f, (f = Fl.ro ∨ f = .full) ∧ v = .sl (ssv l) l.length f
theorem ssv_len (l : List (List UInt8)) : (ssv l).length = l.length := by simp [ssv]
end Go.Sh.F
