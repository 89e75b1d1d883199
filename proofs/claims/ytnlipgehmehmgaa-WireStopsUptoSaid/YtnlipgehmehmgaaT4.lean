/-
  What the readers of the package wire do, in the shadow machine.
-/
import Derived.Test.YtnlipgehmehmgaaT2
set_option linter.unusedSimpArgs false
set_option linter.unusedVariables false
namespace Go.Sh.F
theorem bsv_take (l : List UInt8) (n : Nat) : (bsv l).take n = bsv (l.take n) := by simp [bsv, List.map_take]
theorem bsv_drop (l : List UInt8) (n : Nat) : (bsv l).drop n = bsv (l.drop n) := by simp [bsv, List.map_drop]
theorem four {l : List UInt8} {n : Nat} (h : n + 4 ≤ l.length) : ∃ b0 b1 b2 b3, (l.take (n + 4)).drop n = [b0, b1, b2, b3] := by
  have : ((l.take (n + 4)).drop n).length = 4 := by simp; omega
  generalize (l.take (n + 4)).drop n = m at this
  match m, this with
  | [a, b, c, d], _ => exact ⟨a, b, c, d, rfl⟩
def num4 (m : List UInt8) : Nat := m.foldl (fun a b => a * 256 + b.toNat) 0
/-- What a reader is: its bytes, its place, its error. -/
structure RdS where
  l : List UInt8
  p : Nat
  e : Int
def rdv (v : SV) (l : List UInt8) : Prop := (v = .nilS ∧ l = []) ∨ v = .sl (bsv l) l.length .ro
def numF (s : RdS) (most : Int) : Int × RdS :=
  if s.e ≠ 0 then (0, s) else if s.l.length < s.p + 4 then (0, { s with e := 4 }) else
  if most < num4 ((s.l.take (s.p + 4)).drop s.p) then (0, { s with e := 5 }) else (num4 ((s.l.take (s.p + 4)).drop s.p), { s with p := s.p + 4 })
def isRd (st : List Ob) (id : Nat) (s : RdS) : Prop := s.l.length ≤ 1099511627776 ∧ s.p ≤ s.l.length ∧ ∃ v, rdv v s.l ∧ st[id]? = some (.cells [v, .int .i64 s.p, .int .i64 s.e])
def rdTo (st : List Ob) (id : Nat) (s : RdS) (st' : List Ob) : Prop := ∃ v, (∃ p e, st[id]? = some (.cells [v, p, e])) ∧ st' = setOb st id [v, .int .i64 s.p, .int .i64 s.e]
theorem setOb_self {st : List Ob} {id : Nat} {l : List SV} (h : st[id]? = some (.cells l)) : setOb st id l = st := by
  unfold setOb
  obtain ⟨hlt, he⟩ := List.getElem?_eq_some_iff.1 h
  rw [← he, List.set_getElem_self]

theorem f22 (s : RdS) (id : Nat) (st : List Ob) (most : Int) (v : SV) (hv : rdv v s.l) (hl : s.l.length ≤ 1099511627776) (hp : s.p ≤ s.l.length) (h : st[id]? = some (.cells [v, .int .i64 s.p, .int .i64 s.e])) :
    swpF O4 sf22 [.ptr id 0, .int .i64 most] st (fun r st' => r = .int .i64 (numF s most).1 ∧ st' = setOb st id [v, .int .i64 (numF s most).2.p, .int .i64 (numF s most).2.e]) := by
  obtain ⟨l, at_, err⟩ := s
  simp only at hv hl hp h ⊢
  have hlt := ob_lt h
  by_cases he : err = 0
  case neg =>
    have hb : (err != 0) = true := by simpa using he
    simp only [sf22, h, hb, swp_seq, swp_reg, swp_ret, swp_cond, seqK_n, seqK_r, condK_t, evK_some, appK_eq, srun_nil, srun_cons, fin_ret, swpF_eq, sk_mv, sk_give, sk_bin, sk_nilc, sk_fld, sk_load, get_mk, raw_slot, raw_lit, put_some, wb_nil, ev_mv, ev_give, ev_nilc, ev_fld, bin_neq, ev_ldP, ldP_some, ro_int, ro_ptr, flg, List.map_cons, List.map_nil, List.getD_cons_zero, List.getD_cons_succ, List.set_cons_zero, List.set_cons_succ, List.getElem?_cons_zero, List.getElem?_cons_succ, List.length_cons, List.length_nil, List.replicate_succ, List.replicate_zero, List.cons_append, List.nil_append, Nat.reduceAdd, Nat.reduceSub, Bool.false_eq_true, Option.map_some, ↓reduceIte, Nat.zero_add]
    exact ⟨_, .same, by simp [numF, he], by simp only [numF, ne_eq, he, not_false_eq_true, if_true]; exact (setOb_self h).symm⟩
  subst he
  by_cases h4 : at_ + 4 ≤ l.length
  case neg =>
    have hf : O4 34 [.ptr id 0, .int .i64 4, .int .i64 at_] st (.tup []) (setOb st id [v, .int .i64 at_, .int .i64 4]) := .inr ⟨rfl, v, at_, 0, 4, at_, id, h, rfl, rfl, rfl⟩
    have hr : numF ⟨l, at_, 0⟩ most = (0, ⟨l, at_, 4⟩) := by
      have : l.length < at_ + 4 := by omega
      simp [numF, this]
    rw [hr]
    rcases hv with ⟨rfl, rfl⟩ | rfl
    · have hd : decide ((0 : Int) - at_ < 4) = true := by simp; omega
      simp (maxSteps := 2000000) (disch := first | omega | (simp only [List.length_append, List.length_cons, List.length_nil, List.length_map] <;> omega)) only [sf22, h, hd, swp_seq, swp_reg, swp_skip, swp_cond, seqK_n, condK_t, condK_f, evK_some, appK_eq, srun_nil, srun_cons, stepK_call, swpF_eq, sk_mv, sk_give, sk_bin, sk_nilc, sk_fld, sk_load, sk_lenL, get_mk, raw_slot, raw_lit, put_some, wb_nil, ev_mv, ev_give, ev_nilc, ev_fld, ev_lenN, bin_sub, bin_neq, bin_lss, ev_ldP, ldP_some, ro_int, ro_nilS, ro_ptr, got_int, got_ptr, flg, exc, pubs, pubsFrom, List.map_cons, List.map_nil, List.getD_cons_zero, List.getD_cons_succ, List.set_cons_zero, List.set_cons_succ, List.getElem?_cons_zero, List.getElem?_cons_succ, List.length_cons, List.length_nil, List.replicate_succ, List.replicate_zero, List.cons_append, List.nil_append, Nat.reduceAdd, Nat.reduceSub, Bool.false_eq_true, Option.map_some, ↓reduceIte, Nat.zero_add, bne_self_eq_false, wrap_i64]
      refine callK_intro hf ?_
      simp (maxSteps := 2000000) (disch := first | omega | (simp only [List.length_append, List.length_cons, List.length_nil, List.length_map] <;> omega)) only [swp_seq, swp_reg, swp_ret, seqK_n, seqK_r, evK_some, appK_eq, appC_eq, srun_nil, srun_cons, fin_ret, sk_give, get_mk, raw_lit, put_some, wb_nil, ev_give, ro_int, flg, List.map_cons, List.map_nil, List.getD_cons_zero, List.getD_cons_succ, List.set_cons_zero, List.set_cons_succ, true_and, Bool.false_eq_true, ↓reduceIte]
      exact ⟨_, .same, rfl⟩
    · have hd : decide ((l.length : Int) - at_ < 4) = true := by simp; omega
      simp (maxSteps := 2000000) (disch := first | omega | (simp only [List.length_append, List.length_cons, List.length_nil, List.length_map] <;> omega)) only [sf22, h, hd, swp_seq, swp_reg, swp_skip, swp_cond, seqK_n, condK_t, condK_f, evK_some, appK_eq, srun_nil, srun_cons, stepK_call, swpF_eq, sk_mv, sk_give, sk_bin, sk_nilc, sk_fld, sk_load, sk_lenL, get_mk, raw_slot, raw_lit, put_some, wb_nil, ev_mv, ev_give, ev_nilc, ev_fld, ev_lenL, bin_sub, bin_neq, bin_lss, ev_ldP, ldP_some, ro_int, ro_ptr, ro_ro, got_int, got_ptr, flg, exc, pubs, pubsFrom, List.map_cons, List.map_nil, List.getD_cons_zero, List.getD_cons_succ, List.set_cons_zero, List.set_cons_succ, List.getElem?_cons_zero, List.getElem?_cons_succ, List.length_cons, List.length_nil, List.replicate_succ, List.replicate_zero, List.cons_append, List.nil_append, Nat.reduceAdd, Nat.reduceSub, Bool.false_eq_true, Option.map_some, ↓reduceIte, Nat.zero_add, bne_self_eq_false, wrap_i64]
      refine callK_intro hf ?_
      simp (maxSteps := 2000000) (disch := first | omega | (simp only [List.length_append, List.length_cons, List.length_nil, List.length_map] <;> omega)) only [swp_seq, swp_reg, swp_ret, seqK_n, seqK_r, evK_some, appK_eq, appC_eq, srun_nil, srun_cons, fin_ret, sk_give, get_mk, raw_lit, put_some, wb_nil, ev_give, ro_int, flg, List.map_cons, List.map_nil, List.getD_cons_zero, List.getD_cons_succ, List.set_cons_zero, List.set_cons_succ, true_and, Bool.false_eq_true, ↓reduceIte]
      exact ⟨_, .same, rfl⟩
  have hv : v = .sl (bsv l) l.length .ro := by
    rcases hv with ⟨_, rfl⟩ | hv
    · simp at h4
    · exact hv
  subst hv
  obtain ⟨b0, b1, b2, b3, hb⟩ := four h4
  have hN : ((at_ : Int) + 4).toNat = at_ + 4 := by omega
  have hsl : List.drop at_ (List.take (at_ + 4) (bsv l)) = bsv [b0, b1, b2, b3] := by rw [bsv_take, bsv_drop, hb]
  have hd : decide ((l.length : Int) - at_ < 4) = false := by simp; omega
  have hbl := bsv_len l
  have l0 := b0.toNat_lt
  have l1 := b1.toNat_lt
  have l2 := b2.toNat_lt
  have l3 := b3.toNat_lt
  have hsub : ((at_ : Int) + 4 - at_).toNat = 4 := by omega
  have hc : ∀ c : UInt8, IntKind.i64.wrap (c.toNat : Int) = c.toNat := fun c => by have := c.toNat_lt; exact wrap_i64 (by omega) (by omega)
  have hb4 : bsv [b0, b1, b2, b3] = [.int .u8 b0.toNat, .int .u8 b1.toNat, .int .u8 b2.toNat, .int .u8 b3.toNat] := rfl
  have hnum : num4 [b0, b1, b2, b3] = ((b0.toNat * 256 + b1.toNat) * 256 + b2.toNat) * 256 + b3.toNat := by simp [num4]
  have hn1 : ¬ l.length < at_ + 4 := by omega
  have hr : numF ⟨l, at_, 0⟩ most = if most < ((num4 [b0, b1, b2, b3] : Nat) : Int) then ((0 : Int), (⟨l, at_, 5⟩ : RdS)) else (((num4 [b0, b1, b2, b3] : Nat) : Int), (⟨l, at_ + 4, 0⟩ : RdS)) := by
    simp only [numF, hn1, hb, ne_eq, not_true_eq_false, if_false]
  rw [hr, hnum]
  clear hr hnum
  obtain ⟨n, hn⟩ : ∃ n, n = ((b0.toNat * 256 + b1.toNat) * 256 + b2.toNat) * 256 + b3.toNat := ⟨_, rfl⟩
  rw [← hn]
  simp (maxSteps := 2000000) (disch := first | omega | (simp only [List.length_append, List.length_cons, List.length_nil, List.length_map] <;> omega)) only [sf22, h, hN, hsl, hd, hsub, hb4, Int.toNat_natCast, swp_seq, swp_reg, swp_skip, swp_block, swp_cond, seqK_n, condK_f, evK_some, appK_eq, srun_nil, srun_cons, swpF_eq, sk_mv, sk_take, sk_give, sk_bin, sk_nilc, sk_fld, sk_load, sk_lenL, sk_slcL, get_mk, raw_slot, raw_lit, put_some, wb_nil, ev_mv, ev_take, ev_give, ev_nilc, ev_fld, ev_lenL, bin_add, bin_sub, bin_neq, bin_lss, ev_ldP, ldP_some, slcL_both_ro, ro_int, ro_ptr, ro_ro, got_int, flg, exc, List.map_cons, List.map_nil, List.getD_cons_zero, List.getD_cons_succ, List.set_cons_zero, List.set_cons_succ, List.getElem?_cons_zero, List.getElem?_cons_succ, List.length_cons, List.length_nil, List.replicate_succ, List.replicate_zero, List.cons_append, List.nil_append, Nat.reduceAdd, Nat.reduceSub, Bool.false_eq_true, Option.map_some, ↓reduceIte, Nat.mul_one, Nat.zero_add, bne_self_eq_false, Int.cast_ofNat_Int, wrap_i64]
  refine swp_unroll 5 ?_
  simp (maxSteps := 2000000) (disch := first | omega | (simp only [List.length_append, List.length_cons, List.length_nil, List.length_map] <;> omega)) only [hc, swp_seq, swp_reg, swp_skip, swp_exit, swp_block, swp_cond, seqK_n, seqK_e, blkK_n, blkK_e, condK_t, condK_f, evK_some, appK_eq, srun_nil, srun_cons, sk_mv, sk_give, sk_bin, sk_cvI, sk_idxA, sk_load, get_mk, raw_slot, raw_lit, put_some, wb_nil, ev_mv, ev_give, ev_cvI, bin_add, bin_or, bin_lss, bin_gtr, unr_succ, unrK_n, unrK_e, ev_loadE, idxA_ro, ro_int, flg, List.map_cons, List.map_nil, List.getD_cons_zero, List.getD_cons_succ, List.set_cons_zero, List.set_cons_succ, List.getElem?_cons_zero, List.getElem?_cons_succ, Nat.reduceLeDiff, Bool.false_eq_true, Option.map_some, ↓reduceIte, decide_true, decide_false, Nat.mul_one, gt_iff_lt, or_step, or_zero, Int.zero_mul, Int.reduceLT, Int.reduceAdd, Int.reduceToNat, Int.reducePow, IntKind.bits, wrap_i64, bin_shl, Nat.min_def, ev_cvI]
  rw [← hn]
  by_cases hm : most < (n : Int)
  · have hf : O4 34 [.ptr id 0, .int .i64 5, .int .i64 at_] st (.tup []) (setOb st id [.sl (bsv l) l.length .ro, .int .i64 at_, .int .i64 5]) := .inr ⟨rfl, _, at_, 0, 5, at_, id, h, rfl, rfl, rfl⟩
    simp (maxSteps := 2000000) (disch := first | omega | (simp only [List.length_append, List.length_cons, List.length_nil, List.length_map] <;> omega)) only [hm, h, swp_seq, swp_reg, condK_t, evK_some, appK_eq, srun_cons, stepK_call, sk_mv, sk_nilc, sk_fld, sk_load, get_mk, raw_slot, raw_lit, put_some, wb_nil, ev_mv, ev_nilc, ev_fld, ev_ldP, ldP_some, ro_int, ro_ptr, got_int, got_ptr, exc, pubs, pubsFrom, List.map_cons, List.map_nil, List.getD_cons_zero, List.getD_cons_succ, List.set_cons_zero, List.set_cons_succ, List.getElem?_cons_zero, List.getElem?_cons_succ, Bool.false_eq_true, Option.map_some, ↓reduceIte, decide_true, Nat.zero_add]
    refine callK_intro hf ?_
    simp (maxSteps := 2000000) (disch := first | omega | (simp only [List.length_append, List.length_cons, List.length_nil, List.length_map] <;> omega)) only [swp_seq, swp_reg, swp_ret, seqK_n, seqK_r, evK_some, appK_eq, appC_eq, srun_nil, srun_cons, fin_ret, sk_give, get_mk, raw_lit, put_some, wb_nil, ev_give, ro_int, flg, List.map_cons, List.map_nil, List.getD_cons_zero, List.getD_cons_succ, List.set_cons_zero, List.set_cons_succ, true_and, Bool.false_eq_true, ↓reduceIte]
    exact ⟨_, .same, rfl⟩
  · simp (maxSteps := 2000000) (disch := first | omega | (simp only [List.length_append, List.length_cons, List.length_nil, List.length_map] <;> omega)) only [hm, h, swp_seq, swp_reg, swp_skip, swp_ret, seqK_n, condK_f, evK_some, appK_eq, srun_nil, srun_cons, fin_ret, sk_mv, sk_give, sk_bin, sk_nilc, sk_fld, sk_load, sk_store, get_mk, raw_slot, raw_lit, put_some, put_none, wb_nil, ev_mv, ev_give, ev_nilc, ev_fld, bin_add, ev_ldP, ldP_some, stP_some, ro_int, ro_ptr, flg, List.map_cons, List.map_nil, List.getD_cons_zero, List.getD_cons_succ, List.set_cons_zero, List.set_cons_succ, List.getElem?_cons_zero, List.getElem?_cons_succ, List.length_cons, List.length_nil, Nat.reduceAdd, Nat.reduceLT, true_and, Bool.false_eq_true, Option.map_some, ↓reduceIte, decide_false, Nat.zero_add, st_int, wrap_i64]
    exact ⟨_, .same, by simp⟩
/-- Reader.Number. -/
def C22 : List SV → List Ob → SV → List Ob → Prop := fun args st r st' => ∃ s v id most, rdv v s.l ∧ s.l.length ≤ 1099511627776 ∧ s.p ≤ s.l.length ∧ st[id]? = some (.cells [v, .int .i64 s.p, .int .i64 s.e]) ∧ args = [.ptr id 0, .int .i64 most] ∧ r = .int .i64 (numF s most).1 ∧ st' = setOb st id [v, .int .i64 (numF s most).2.p, .int .i64 (numF s most).2.e]
def O5 : Orc := O4.add 22 C22
theorem s5 : Sound Proofs.Try.prog O5 := s4.add c22 (by kernel_rfl) (by
  rintro args st r st' ⟨s, v, id, most, hv, hl, hp, h, rfl, rfl, rfl⟩
  exact ⟨by simp [sf22], f22 s id st most v hv hl hp h⟩)
end Go.Sh.F
