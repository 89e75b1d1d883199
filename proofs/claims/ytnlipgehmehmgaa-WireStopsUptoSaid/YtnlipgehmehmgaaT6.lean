/-
  Reader.Err, At, End, and Read, in the shadow machine.
-/
import Derived.Test.YtnlipgehmehmgaaT5
set_option linter.unusedSimpArgs false
set_option linter.unusedVariables false
namespace Go.Sh.F
theorem f31 (O : Orc) (id : Nat) (st : List Ob) (v : SV) (p e : Int) (h : st[id]? = some (.cells [v, .int .i64 p, .int .i64 e])) : swpF O sf31 [.ptr id 0] st (fun r st' => r = .int .i64 e ∧ st' = st) := by
  simp only [sf31, h, swp_seq, swp_reg, swp_ret, seqK_n, evK_some, appK_eq, srun_nil, srun_cons, fin_ret, swpF_eq, sk_mv, sk_give, sk_nilc, sk_fld, sk_load, get_mk, raw_slot, raw_lit, put_some, wb_nil, ev_mv, ev_give, ev_nilc, ev_fld, ev_ldP, ldP_some, ro_int, ro_ptr, flg, List.map_cons, List.map_nil, List.getD_cons_zero, List.getD_cons_succ, List.set_cons_zero, List.set_cons_succ, List.getElem?_cons_zero, List.getElem?_cons_succ, List.length_cons, List.length_nil, List.replicate_succ, List.replicate_zero, List.cons_append, List.nil_append, Nat.reduceSub, true_and, Bool.false_eq_true, Option.map_some, ↓reduceIte, Nat.zero_add]
  exact ⟨_, .same, rfl⟩
theorem f32 (O : Orc) (id : Nat) (st : List Ob) (v : SV) (p e : Int) (h : st[id]? = some (.cells [v, .int .i64 p, .int .i64 e])) : swpF O sf32 [.ptr id 0] st (fun r st' => r = .int .i64 p ∧ st' = st) := by
  simp only [sf32, h, swp_seq, swp_reg, swp_ret, seqK_n, evK_some, appK_eq, srun_nil, srun_cons, fin_ret, swpF_eq, sk_mv, sk_give, sk_nilc, sk_fld, sk_load, get_mk, raw_slot, raw_lit, put_some, wb_nil, ev_mv, ev_give, ev_nilc, ev_fld, ev_ldP, ldP_some, ro_int, ro_ptr, flg, List.map_cons, List.map_nil, List.getD_cons_zero, List.getD_cons_succ, List.set_cons_zero, List.set_cons_succ, List.getElem?_cons_zero, List.getElem?_cons_succ, List.length_cons, List.length_nil, List.replicate_succ, List.replicate_zero, List.cons_append, List.nil_append, Nat.reduceSub, true_and, Bool.false_eq_true, Option.map_some, ↓reduceIte, Nat.zero_add]
  exact ⟨_, .same, rfl⟩
def C31 : List SV → List Ob → SV → List Ob → Prop := fun args st r st' => ∃ v id p e, st[id]? = some (.cells [v, .int .i64 p, .int .i64 e]) ∧ args = [.ptr id 0] ∧ r = .int .i64 e ∧ st' = st
def C32 : List SV → List Ob → SV → List Ob → Prop := fun args st r st' => ∃ v id p e, st[id]? = some (.cells [v, .int .i64 p, .int .i64 e]) ∧ args = [.ptr id 0] ∧ r = .int .i64 p ∧ st' = st
def O7 : Orc := O6.add 31 C31
def O8 : Orc := O7.add 32 C32
theorem s7 : Sound Proofs.Try.prog O7 := s6.add c31 (by kernel_rfl) (by
  rintro args st r st' ⟨v, id, p, e, h, rfl, rfl, rfl⟩
  exact ⟨by simp [sf31], f31 _ id _ v p e h⟩)
theorem s8 : Sound Proofs.Try.prog O8 := s7.add c32 (by kernel_rfl) (by
  rintro args st r st' ⟨v, id, p, e, h, rfl, rfl, rfl⟩
  exact ⟨by simp [sf32], f32 _ id _ v p e h⟩)
def endF (s : RdS) : RdS := if s.p < s.l.length ∧ s.e = 0 then { s with e := 4 } else s
theorem f29 (s : RdS) (id : Nat) (st : List Ob) (v : SV) (hv : rdv v s.l) (h : st[id]? = some (.cells [v, .int .i64 s.p, .int .i64 s.e])) :
    swpF O8 sf29 [.ptr id 0] st (fun r st' => r = .int .i64 (endF s).e ∧ st' = setOb st id [v, .int .i64 (endF s).p, .int .i64 (endF s).e]) := by
  obtain ⟨l, p, e⟩ := s
  simp only at hv h
  have hlt := ob_lt h
  have hlen : (v = .nilS ∧ l = []) ∨ v = .sl (bsv l) l.length .ro := hv
  by_cases hp : p < l.length
  · have hv' : v = .sl (bsv l) l.length .ro := by
      rcases hlen with ⟨_, rfl⟩ | h'
      · simp at hp
      · exact h'
    subst hv'
    have hd : decide ((p : Int) < (l.length : Int)) = true := by simpa using hp
    have hf : O8 34 [.ptr id 0, .int .i64 4, .int .i64 p] st (.tup []) (setOb st id [.sl (bsv l) l.length .ro, .int .i64 (endF ⟨l, p, e⟩).p, .int .i64 (endF ⟨l, p, e⟩).e]) := by
      refine .inl (.inl (.inl (.inl (.inr ⟨rfl, _, p, e, 4, p, id, h, rfl, rfl, ?_⟩))))
      by_cases he : e = 0
      · simp [endF, hp, he]
      · rw [if_neg he]; simp only [endF, hp, he, and_false, if_false]; exact setOb_self h
    simp only [sf29, h, hd, swp_seq, swp_reg, swp_cond, seqK_n, condK_t, evK_some, appK_eq, srun_nil, srun_cons, stepK_call, swpF_eq, sk_mv, sk_give, sk_bin, sk_nilc, sk_fld, sk_load, sk_lenL, get_mk, raw_slot, raw_lit, put_some, wb_nil, ev_mv, ev_give, ev_nilc, ev_fld, ev_lenL, bin_lss, ev_ldP, ldP_some, ro_int, ro_ptr, ro_ro, got_int, got_ptr, flg, exc, pubs, pubsFrom, List.map_cons, List.map_nil, List.getD_cons_zero, List.getD_cons_succ, List.set_cons_zero, List.set_cons_succ, List.getElem?_cons_zero, List.getElem?_cons_succ, List.length_cons, List.length_nil, List.replicate_succ, List.replicate_zero, List.cons_append, List.nil_append, Nat.reduceSub, Bool.false_eq_true, Option.map_some, ↓reduceIte, Nat.zero_add]
    refine callK_intro hf ?_
    simp only [hlt, swp_seq, swp_reg, swp_ret, seqK_n, evK_some, appK_eq, appC_eq, srun_nil, srun_cons, fin_ret, sk_mv, sk_give, sk_nilc, sk_fld, sk_load, get_mk, raw_slot, put_some, wb_nil, ev_mv, ev_give, ev_nilc, ev_fld, ev_ldP, ldP_some, ro_int, ro_ptr, flg, List.map_cons, List.map_nil, List.getD_cons_zero, List.getD_cons_succ, List.set_cons_zero, List.set_cons_succ, List.getElem?_cons_zero, List.getElem?_cons_succ, true_and, Bool.false_eq_true, Option.map_some, ↓reduceIte, Nat.zero_add, setOb_same]
    exact ⟨_, .same, rfl⟩
  · have hE : endF ⟨l, p, e⟩ = ⟨l, p, e⟩ := by simp [endF, hp]
    rw [hE]
    rcases hlen with ⟨rfl, rfl⟩ | rfl
    · have hd : decide ((p : Int) < 0) = false := by simp
      simp only [sf29, h, hd, swp_seq, swp_reg, swp_skip, swp_ret, swp_cond, seqK_n, condK_f, evK_some, appK_eq, srun_nil, srun_cons, fin_ret, swpF_eq, sk_mv, sk_give, sk_bin, sk_nilc, sk_fld, sk_load, sk_lenL, get_mk, raw_slot, raw_lit, put_some, wb_nil, ev_mv, ev_give, ev_nilc, ev_fld, ev_lenN, bin_lss, ev_ldP, ldP_some, ro_int, ro_nilS, ro_ptr, flg, List.map_cons, List.map_nil, List.getD_cons_zero, List.getD_cons_succ, List.set_cons_zero, List.set_cons_succ, List.getElem?_cons_zero, List.getElem?_cons_succ, List.length_cons, List.length_nil, List.replicate_succ, List.replicate_zero, List.cons_append, List.nil_append, Nat.reduceSub, true_and, Bool.false_eq_true, Option.map_some, ↓reduceIte, Nat.zero_add]
      exact ⟨_, .same, (setOb_self h).symm⟩
    · have hd : decide ((p : Int) < (l.length : Int)) = false := by simpa using hp
      simp only [sf29, h, hd, swp_seq, swp_reg, swp_skip, swp_ret, swp_cond, seqK_n, condK_f, evK_some, appK_eq, srun_nil, srun_cons, fin_ret, swpF_eq, sk_mv, sk_give, sk_bin, sk_nilc, sk_fld, sk_load, sk_lenL, get_mk, raw_slot, raw_lit, put_some, wb_nil, ev_mv, ev_give, ev_nilc, ev_fld, ev_lenL, bin_lss, ev_ldP, ldP_some, ro_int, ro_ptr, ro_ro, flg, List.map_cons, List.map_nil, List.getD_cons_zero, List.getD_cons_succ, List.set_cons_zero, List.set_cons_succ, List.getElem?_cons_zero, List.getElem?_cons_succ, List.length_cons, List.length_nil, List.replicate_succ, List.replicate_zero, List.cons_append, List.nil_append, Nat.reduceSub, true_and, Bool.false_eq_true, Option.map_some, ↓reduceIte, Nat.zero_add]
      exact ⟨_, .same, (setOb_self h).symm⟩
def C29 : List SV → List Ob → SV → List Ob → Prop := fun args st r st' => ∃ s v id, rdv v s.l ∧ st[id]? = some (.cells [v, .int .i64 s.p, .int .i64 s.e]) ∧ args = [.ptr id 0] ∧ r = .int .i64 (endF s).e ∧ st' = setOb st id [v, .int .i64 (endF s).p, .int .i64 (endF s).e]
def O9 : Orc := O8.add 29 C29
theorem s9 : Sound Proofs.Try.prog O9 := s8.add c29 (by kernel_rfl) (by
  rintro args st r st' ⟨s, v, id, hv, h, rfl, rfl, rfl⟩
  exact ⟨by simp [sf29], f29 s id _ v hv h⟩)
end Go.Sh.F
