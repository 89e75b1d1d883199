/-
  Names, paths: the program's functions, in the shadow machine.
  Paths: the program's functions, in the shadow machine (Names to Sorted).
  Paths: Sorted; the document's names, pieces, in the shadow machine.
  Paths: the document's functions, in the shadow machine.
  Paths: the document's Right to Sorted, in the shadow machine.
  Paths: the document's Parent, Under, Sorted; two rows; the law's small case, in the shadow machine.
-/
import Derived.Test.YtihhaeklacphbaaDoorT1
import Derived.Test.YtihhaeklacphbaaDoorShelf
import Derived.Test.YtihhaeklacphbaaDoorShSp
set_option linter.unusedSimpArgs false
set_option linter.unusedVariables false
namespace Go.Sh.F
open Go.PathLaw Go.Proofs
def O1 : Orc := Orc.none.add 57 (FnC KSplit)
theorem s1 : Sound Tryd.prog O1 := Sound.none.addR (rSplit Tryd.lays146 (by kernel_rfl) rfl (by kernel_rfl))
def O2 : Orc := O1.add 63 (FnC KIndexByte)
theorem s2 : Sound Tryd.prog O2 := s1.addR (rIndexByte Tryd.lays137 rfl (by kernel_rfl))
def O3 : Orc := O2.add 59 (KJoin [47])
theorem s3 : Sound Tryd.prog O3 := s2.addR (rJoin Tryd.lays156 Tryd.Builder_Extra_156 rfl (by kernel_rfl))
def sm (s : List UInt8) : Prop := s.length ≤ 268435456

theorem pre_take (s p : List UInt8) : p.isPrefixOf s = (decide (p.length ≤ s.length) && (s.take p.length == p)) := by
  rw [Bool.eq_iff_iff, List.isPrefixOf_iff_prefix, Bool.and_eq_true, decide_eq_true_eq, beq_iff_eq]
  constructor
  · rintro ⟨t, rfl⟩
    simp
  · rintro ⟨h1, h2⟩
    exact ⟨s.drop p.length, by rw [← h2]; simp [Nat.min_eq_left h1]⟩
/-- HasPrefix. -/
def KPre : List SV → SV → Prop := fun args r => ∃ s p : List UInt8, args = [.str s, .str p] ∧ r = .bool (p.isPrefixOf s)
theorem f37 (O : Orc) (s p : List UInt8) (st : List Ob) : swpF O sf56 [.str s, .str p] st (fun r st' => r = .bool (p.isPrefixOf s) ∧ st' = st) := by
  rw [pre_take]
  by_cases h : p.length ≤ s.length
  · have d1 : decide ((p.length : Int) ≤ (s.length : Int)) = true := by simpa using h
    have d2 : decide (p.length ≤ s.length) = true := by simpa using h
    simp (maxSteps := 2000000) (disch := first | omega | (simp only [List.length_append, List.length_cons, List.length_nil, List.length_map] <;> omega)) only [sf56, d1, Int.toNat_natCast, flg_bool, exc_str, swp_seq, swp_reg, swp_ret, seqK_n, evK_some, appK_eq, grd_t, srun_nil, srun_cons, stepK_grd, fin_ret, swpF_eq, sk_mv, sk_take, sk_give, sk_pick, sk_bin, sk_lenS, sk_slcS, get_mk, raw_slot, raw_lit, put_some, wb_nil, ev_mv, ev_take, ev_give, ev_pick, ev_lenS, bin_geq, bin_eqlS, slcS_hi, ro_bool, ro_str, got_str, List.map_cons, List.map_nil, List.getD_cons_zero, List.getD_cons_succ, List.set_cons_zero, List.set_cons_succ, List.length_cons, List.length_nil, List.replicate_succ, List.replicate_zero, List.cons_append, List.nil_append, Nat.reduceAdd, Nat.reduceSub, Bool.false_eq_true, ↓reduceIte, Nat.zero_add, ge_iff_le]
    exact ⟨_, .same, by rw [d2, Bool.true_and], rfl⟩
  · have d1 : decide ((p.length : Int) ≤ (s.length : Int)) = false := by simp; omega
    have d2 : decide (p.length ≤ s.length) = false := by simpa using h
    simp (maxSteps := 2000000) (disch := first | omega | (simp only [List.length_append, List.length_cons, List.length_nil, List.length_map] <;> omega)) only [sf56, d1, flg_bool, swp_seq, swp_reg, swp_ret, seqK_n, evK_some, appK_eq, grd_t, srun_nil, srun_cons, stepK_grd, fin_ret, swpF_eq, sk_mv, sk_give, sk_pick, sk_bin, sk_lenS, get_mk, raw_slot, raw_lit, put_some, wb_nil, ev_mv, ev_give, ev_pick, ev_lenS, bin_geq, ro_bool, ro_str, List.map_cons, List.map_nil, List.getD_cons_zero, List.getD_cons_succ, List.set_cons_zero, List.set_cons_succ, List.length_cons, List.length_nil, List.replicate_succ, List.replicate_zero, List.cons_append, List.nil_append, Nat.reduceAdd, Nat.reduceSub, Bool.false_eq_true, ↓reduceIte, Nat.zero_add, ge_iff_le]
    exact ⟨_, .same, by rw [d2, Bool.false_and], rfl⟩
def O4 : Orc := O3.add 56 (FnC KPre)
theorem s4 : Sound Tryd.prog O4 := s3.addP c56 (by kernel_rfl) (by
  rintro args r ⟨s, p, rfl, rfl⟩
  exact ⟨by simp [sf56], fun st => f37 _ s p st⟩)
theorem f31 (s p : List UInt8) (st : List Ob) : swpF O4 sf45 [.str s, .str p] st (fun r st' => r = .bool (p.isPrefixOf s) ∧ st' = st) := by
  simp (maxSteps := 2000000) (disch := first | omega | (simp only [List.length_append, List.length_cons, List.length_nil, List.length_map] <;> omega)) only [sf45, flg_bool, exc_str, swp_seq, swp_reg, seqK_n, evK_some, appK_eq, srun_nil, srun_cons, stepK_call, swpF_eq, sk_mv, sk_give, get_mk, raw_slot, raw_lit, put_some, wb_nil, ev_mv, ev_give, ro_bool, ro_str, got_str, pubs, pubsFrom, List.map_cons, List.map_nil, List.getD_cons_zero, List.getD_cons_succ, List.set_cons_zero, List.set_cons_succ, List.length_cons, List.length_nil, List.replicate_succ, List.replicate_zero, List.cons_append, List.nil_append, Nat.reduceAdd, Nat.reduceSub, Bool.false_eq_true, ↓reduceIte, Nat.zero_add]
  refine callK_intro ((by repeat first | exact Or.inr ⟨rfl, rfl, s, p, rfl, rfl⟩ | refine Or.inl ?_)) ?_
  simp (maxSteps := 2000000) (disch := first | omega | (simp only [List.length_append, List.length_cons, List.length_nil, List.length_map] <;> omega)) only [flg_bool, swp_ret, seqK_n, evK_some, appK_eq, appC_eq, srun_nil, srun_cons, fin_ret, sk_give, get_mk, raw_slot, put_some, wb_nil, ev_give, ro_bool, List.map_cons, List.map_nil, List.getD_cons_zero, List.getD_cons_succ, List.set_cons_zero, List.set_cons_succ, true_and, Bool.false_eq_true, ↓reduceIte]
  first | exact ⟨_, .same⟩ | exact ⟨_, .same, rfl⟩ | exact ⟨_, .same, rfl, rfl⟩
def O5 : Orc := O4.add 45 (FnC KPre)
theorem s5 : Sound Tryd.prog O5 := s4.addP c45 (by kernel_rfl) (by
  rintro args r ⟨s, p, rfl, rfl⟩
  exact ⟨by simp [sf45], fun st => f31 s p st⟩)

/-! Name. -/
theorem idx_others (c : UInt8) : decide (Lib.indexByte [46, 45] (c.toNat.toUInt8) < 0) = !(c == 46 || c == 45) := by
  have e : c.toNat.toUInt8 = c := by simp
  rw [e]
  by_cases h1 : c = 46
  · subst h1; decide
  · by_cases h2 : c = 45
    · subst h2; decide
    · have e1 : ((46 : UInt8) == c) = false := by simpa using fun h => h1 h.symm
      have e2 : ((45 : UInt8) == c) = false := by simpa using fun h => h2 h.symm
      have e3 : (c == 46) = false := by simpa using h1
      have e4 : (c == 45) = false := by simpa using h2
      rw [e3, e4]
      simp [Lib.indexByte, e1, e2]
theorem o2_29 (s : List UInt8) (c : Int) (st : List Ob) : O5 63 [.str s, .int .u8 c] st (.int .i64 (Lib.indexByte s c.toNat.toUInt8)) st := (by repeat first | exact Or.inr ⟨rfl, rfl, s, c, rfl, rfl⟩ | refine Or.inl ?_)
theorem nameB_end (s : List UInt8) (h : s.all okB = true) : nameB s = (decide (1 ≤ s.length) && decide (s.length ≤ 12) && s != [46] && s != [46, 46]) := by
  rw [nameB, h, Bool.and_true]
theorem nameB_bad {s : List UInt8} {i : Nat} (hi : i < s.length) (h : okB s[i] = false) : nameB s = false := by
  have : s.all okB = false := by
    rw [List.all_eq_false]
    exact ⟨s[i], List.getElem_mem hi, by rw [h]; simp⟩
  rw [nameB, this, Bool.and_false]
theorem all_take_succ {s : List UInt8} {p : UInt8 → Bool} {i : Nat} (hi : i < s.length) : (s.take (i + 1)).all p = ((s.take i).all p && p s[i]) := by
  rw [← List.take_append_getElem hi, List.all_append]; simp
set_option maxHeartbeats 8000000 in
theorem f14 (s : List UInt8) (hs : sm s) (st : List Ob) : swpF O5 sf58 [.str s] st (fun r st' => r = .bool (nameB s) ∧ st' = st) := by
  unfold sm at hs
  simp (maxSteps := 2000000) (disch := first | omega | (simp only [List.length_append, List.length_cons, List.length_nil, List.length_map] <;> omega)) only [sf58, ev_s2b, flg_bool, swp_seq, swp_reg, swp_block, seqK_n, evK_some, appK_eq, srun_nil, srun_cons, swpF_eq, sk_mv, sk_give, sk_s2b, sk_lenL, get_mk, raw_slot, raw_lit, put_some, wb_nil, ev_mv, ev_give, ev_lenL, ro_int, ro_bool, ro_str, List.map_cons, List.map_nil, List.getD_cons_zero, List.getD_cons_succ, List.set_cons_zero, List.set_cons_succ, List.length_cons, List.length_nil, List.replicate_succ, List.replicate_zero, List.cons_append, List.nil_append, Nat.reduceSub, Bool.false_eq_true, ↓reduceIte, Nat.zero_add]
  have hb : (s.map fun b => SV.int .u8 b.toNat) = bsv s := rfl
  rw [hb]
  refine swp_lp (fun S => ∃ (i : Nat) (fl : Fl), i ≤ s.length ∧ (fl = .excl 1 ∨ fl = .own 1) ∧ (s.take i).all okB = true ∧
      S = ⟨[.str s, .undef, .bool false, .undef, .undef, .undef, .undef, .sl (bsv s) s.length fl, .int .i64 s.length, .int .i64 i] ++ List.replicate 41 .undef, st⟩)
      (fun S => match S.get 9 with | .int _ k => ((s.length : Int) - k).toNat | _ => 0)
      ⟨[.str s, .undef, .bool false, .undef, .undef, .undef, .undef, .sl (bsv s) s.length (.excl 1), .int .i64 s.length, .int .i64 0] ++ List.replicate 41 .undef, st⟩ ?_ ⟨0, .excl 1, Nat.zero_le _, .inl rfl, rfl, rfl⟩ ?_
  · refine Forget.of ?_
    repeat first | exact fg_e | refine fg_d ?_ | refine fg_k rfl ?_
  rintro S ⟨i, fl, hi, hfl, hall, rfl⟩
  by_cases him : i = s.length
  · have hd : decide ((i : Int) < (s.length : Int)) = false := by simp; omega
    rw [him, List.take_length] at hall
    rw [nameB_end s hall]
    by_cases h1 : 1 ≤ s.length
    case neg =>
      have d1 : decide ((0 : Int) < (s.length : Int)) = false := by rw [decide_eq_false_iff_not]; omega
      have d2 : decide (1 ≤ s.length) = false := by simpa using h1
      simp (maxSteps := 2000000) (disch := first | omega | (simp only [List.length_append, List.length_cons, List.length_nil, List.length_map] <;> omega)) only [hd, d1, lpK_e, flg_bool, swp_seq, swp_reg, swp_ret, swp_exit, swp_cond, seqK_n, seqK_e, blkK_e, condK_f, evK_some, appK_eq, grd_t, srun_nil, srun_cons, stepK_grd, fin_ret, sk_mv, sk_give, sk_pick, sk_bin, sk_lenS, get_mk, raw_slot, raw_lit, put_some, wb_nil, ev_mv, ev_give, ev_pick, ev_lenS, bin_lss, bin_gtr, ro_bool, ro_str, List.map_cons, List.map_nil, List.getD_cons_zero, List.getD_cons_succ, List.set_cons_zero, List.set_cons_succ, List.replicate_succ, List.replicate_zero, List.cons_append, List.nil_append, Bool.false_eq_true, ↓reduceIte, gt_iff_lt]
      exact ⟨_, .same, by rw [d2]; simp, rfl⟩
    have d1 : decide ((0 : Int) < (s.length : Int)) = true := by simp; omega
    have d2 : decide (1 ≤ s.length) = true := by simpa using h1
    by_cases h2 : s.length ≤ 12
    case neg =>
      have d3 : decide ((s.length : Int) ≤ 12) = false := by simp; omega
      have d4 : decide (s.length ≤ 12) = false := by simpa using h2
      simp (maxSteps := 2000000) (disch := first | omega | (simp only [List.length_append, List.length_cons, List.length_nil, List.length_map] <;> omega)) only [hd, d1, d3, lpK_e, flg_bool, exc_str, swp_seq, swp_reg, swp_ret, swp_exit, swp_cond, seqK_n, seqK_e, blkK_e, condK_f, evK_some, appK_eq, grd_t, srun_nil, srun_cons, stepK_grd, fin_ret, sk_mv, sk_take, sk_give, sk_pick, sk_bin, sk_lenS, get_mk, raw_slot, raw_lit, put_some, wb_nil, ev_mv, ev_take, ev_give, ev_pick, ev_lenS, bin_lss, bin_leq, bin_gtr, ro_bool, ro_str, got_str, List.map_cons, List.map_nil, List.getD_cons_zero, List.getD_cons_succ, List.set_cons_zero, List.set_cons_succ, List.replicate_succ, List.replicate_zero, List.cons_append, List.nil_append, Bool.false_eq_true, ↓reduceIte, gt_iff_lt]
      exact ⟨_, .same, by rw [d2, d4]; simp, rfl⟩
    have d3 : decide ((s.length : Int) ≤ 12) = true := by simp; omega
    have d4 : decide (s.length ≤ 12) = true := by simpa using h2
    rw [d2, d4, Bool.true_and, Bool.true_and]
    have x1 : (s != [46]) = !(s == [46]) := rfl
    have x2 : (s != [46, 46]) = !(s == [46, 46]) := rfl
    rw [x1, x2]
    cases hx : (s == [46]) <;> cases hy : (s == [46, 46]) <;> (simp (maxSteps := 2000000) (disch := first | omega | (simp only [List.length_append, List.length_cons, List.length_nil, List.length_map] <;> omega)) only [hd, d1, d3, hx, hy, lpK_e, flg_bool, exc_str, swp_seq, swp_reg, swp_ret, swp_exit, swp_cond, seqK_n, seqK_e, blkK_e, condK_f, evK_some, appK_eq, grd_t, srun_nil, srun_cons, stepK_grd, fin_ret, sk_mv, sk_take, sk_give, sk_pick, sk_bin, sk_lenS, get_mk, raw_slot, raw_lit, put_some, wb_nil, ev_mv, ev_take, ev_give, ev_pick, ev_lenS, bin_lss, bin_leq, bin_gtr, bin_neqS, ro_bool, ro_str, got_str, List.map_cons, List.map_nil, List.getD_cons_zero, List.getD_cons_succ, List.set_cons_zero, List.set_cons_succ, List.replicate_succ, List.replicate_zero, List.cons_append, List.nil_append, true_and, Bool.false_eq_true, ↓reduceIte, Bool.and_true, Bool.and_self, Bool.not_true, Bool.not_false, gt_iff_lt]; first | exact ⟨_, .same⟩ | exact ⟨_, .same, rfl⟩ | exact ⟨_, .same, rfl, rfl⟩)
  have hd : decide ((i : Int) < (s.length : Int)) = true := by simp; omega
  have hil : i < s.length := by omega
  have hat := bsv_at s i s[i] (List.getElem?_eq_getElem hil)
  have hsl := bsv_len s
  have hok : okB s[i] = (decide ((97 : Int) ≤ (s[i].toNat : Int)) && decide ((s[i].toNat : Int) ≤ 122) || decide ((48 : Int) ≤ (s[i].toNat : Int)) && decide ((s[i].toNat : Int) ≤ 57) || (s[i] == 46 || s[i] == 45)) := by
    have e1 : decide ((97 : Int) ≤ (s[i].toNat : Int)) = decide (97 ≤ s[i].toNat) := by rw [decide_eq_decide]; omega
    have e2 : decide ((s[i].toNat : Int) ≤ 122) = decide (s[i].toNat ≤ 122) := by rw [decide_eq_decide]; omega
    have e3 : decide ((48 : Int) ≤ (s[i].toNat : Int)) = decide (48 ≤ s[i].toNat) := by rw [decide_eq_decide]; omega
    have e4 : decide ((s[i].toNat : Int) ≤ 57) = decide (s[i].toNat ≤ 57) := by rw [decide_eq_decide]; omega
    rw [e1, e2, e3, e4, okB, Bool.or_assoc]
  have hio := idx_others s[i]
  have hbad : okB s[i] = false → nameB s = false := nameB_bad hil
  have hgood : okB s[i] = true → (s.take (i + 1)).all okB = true := fun h => by rw [all_take_succ hil, hall, h]; rfl
  have fin : ((s.length : Int) - ((i + 1 : Nat) : Int)).toNat < ((s.length : Int) - (i : Int)).toNat := by omega
  have k29 := o2_29 [46, 45] (s[i].toNat : Int) st
  obtain ⟨b1, hb1⟩ : ∃ b, decide ((97 : Int) ≤ (s[i].toNat : Int)) = b := ⟨_, rfl⟩
  obtain ⟨b2, hb2⟩ : ∃ b, decide ((s[i].toNat : Int) ≤ 122) = b := ⟨_, rfl⟩
  obtain ⟨b3, hb3⟩ : ∃ b, decide ((48 : Int) ≤ (s[i].toNat : Int)) = b := ⟨_, rfl⟩
  obtain ⟨b4, hb4⟩ : ∃ b, decide ((s[i].toNat : Int) ≤ 57) = b := ⟨_, rfl⟩
  obtain ⟨b5, hb5⟩ : ∃ b, (s[i] == 46 || s[i] == 45) = b := ⟨_, rfl⟩
  rw [hb1, hb2, hb3, hb4, hb5] at hok
  rw [hb5] at hio
  rcases hfl with rfl | rfl
  all_goals
    cases b1 <;> cases b2 <;> cases b3 <;> cases b4
    all_goals
      simp only [Bool.and_true, Bool.and_false, Bool.true_or, Bool.false_or, Bool.or_true, Bool.or_false] at hok
      simp (maxSteps := 2000000) (disch := first | omega | (simp only [List.length_append, List.length_cons, List.length_nil, List.length_map] <;> omega)) only [hd, hat, hb1, hb2, hb3, hb4, lpK_n, Int.toNat_natCast, flg_bool, flg_int, exc_bool, exc_int, exc_str, sk_idxB, idxB_own, idxB_excl, grd_s, swp_seq, swp_reg, swp_skip, swp_block, swp_cond, seqK_n, blkK_n, condK_t, condK_f, evK_some, appK_eq, grd_t, srun_nil, srun_cons, stepK_call, stepK_grd, sk_mv, sk_take, sk_give, sk_pick, sk_bin, sk_un, sk_load, get_mk, raw_slot, raw_lit, put_some, wb_nil, wb_cons, ev_mv, ev_take, ev_give, ev_pick, ev_not, bin_add, bin_lss, bin_leq, bin_geq, ev_loadE, ro_int, ro_bool, got_int, got_bool, got_str, pubs, pubsFrom, List.map_cons, List.map_nil, List.getD_cons_zero, List.getD_cons_succ, List.set_cons_zero, List.set_cons_succ, List.getElem?_cons_zero, List.replicate_succ, List.replicate_zero, List.cons_append, List.nil_append, Bool.false_eq_true, Option.map_some, ↓reduceIte, Nat.mul_one, reduceCtorEq, Bool.not_true, Bool.not_false, ge_iff_le, wrap_i64]
      first
        | (refine callK_intro k29 ?_
           cases b5
           · simp only [Bool.not_false] at hio
             rw [hbad hok]
             simp (maxSteps := 2000000) (disch := first | omega | (simp only [List.length_append, List.length_cons, List.length_nil, List.length_map] <;> omega)) only [hio, lpK_r, Int.toNat_natCast, flg_bool, swp_seq, swp_reg, swp_ret, swp_cond, seqK_n, seqK_r, blkK_r, condK_t, evK_some, appK_eq, appC_eq, grd_t, srun_nil, srun_cons, stepK_grd, fin_ret, sk_give, sk_pick, sk_bin, get_mk, raw_slot, raw_lit, put_some, wb_nil, ev_give, ev_pick, bin_lss, ro_bool, List.map_cons, List.map_nil, List.getD_cons_zero, List.getD_cons_succ, List.set_cons_zero, List.set_cons_succ, true_and, Bool.false_eq_true, ↓reduceIte]
             first | exact ⟨_, .same⟩ | exact ⟨_, .same, rfl⟩ | exact ⟨_, .same, rfl, rfl⟩
           · simp only [Bool.not_true] at hio
             simp (maxSteps := 2000000) (disch := first | omega | (simp only [List.length_append, List.length_cons, List.length_nil, List.length_map] <;> omega)) only [hio, lpK_n, Int.toNat_natCast, swp_reg, swp_skip, swp_cond, seqK_n, blkK_n, condK_f, evK_some, appK_eq, appC_eq, grd_t, srun_nil, srun_cons, stepK_grd, sk_mv, sk_pick, sk_bin, get_mk, raw_slot, raw_lit, put_some, wb_nil, ev_mv, ev_pick, bin_add, bin_lss, ro_int, ro_bool, List.map_cons, List.map_nil, List.getD_cons_zero, List.getD_cons_succ, List.set_cons_zero, List.set_cons_succ, ↓reduceIte, wrap_i64]
             refine ⟨_, ?_, ⟨i + 1, .own 1, by omega, .inr rfl, hgood hok, rfl⟩, fin⟩
             refine Forget.of ?_
             repeat first | exact fg_e | refine fg_d ?_ | refine fg_k rfl ?_)
        | (refine ⟨_, ?_, ⟨i + 1, .own 1, by omega, .inr rfl, hgood hok, rfl⟩, fin⟩
           refine Forget.of ?_
           repeat first | exact fg_e | refine fg_d ?_ | refine fg_k rfl ?_)
end Go.Sh.F
namespace Go.Sh.F
open Go.PathLaw Go.Proofs
def KName : List SV → SV → Prop := fun args r => ∃ s : List UInt8, sm s ∧ args = [.str s] ∧ r = .bool (nameB s)
def O6 : Orc := O5.add 58 (FnC KName)
theorem s6 : Sound Tryd.prog O6 := s5.addP c58 (by kernel_rfl) (by
  rintro args r ⟨s, hs, rfl, rfl⟩
  exact ⟨by simp [sf58], fun st => f14 s hs st⟩)
theorem o6_27 {s : List UInt8} (hs : sm s) (st : List Ob) : O6 57 [.str s, .str [47]] st (.sl (ssv (spl s)) (spl s).length .ro) st := (by repeat first | exact Or.inr ⟨rfl, rfl, s, by unfold sm at hs; omega, rfl, rfl⟩ | refine Or.inl ?_)
theorem spl_sm {s x : List UInt8} (hs : sm s) (hx : x ∈ spl s) : sm x := by
  have : ∀ s : List UInt8, ∀ x ∈ spl s, x.length ≤ s.length := by
    intro s
    induction s with
    | nil => intro x hx; simp [spl] at hx; subst hx; simp
    | cons c r ih =>
      intro x hx
      by_cases hc : c = 47
      · subst hc
        rw [spl_stroke] at hx
        rcases List.mem_cons.1 hx with rfl | hx
        · simp
        · have := ih x hx; simp; omega
      · cases hs : spl r with
        | nil => exact absurd hs (spl_ne r)
        | cons h t =>
          rw [spl_cons hc hs] at hx
          rw [hs] at ih
          rcases List.mem_cons.1 hx with rfl | hx
          · have := ih h List.mem_cons_self; simp; omega
          · have := ih x (List.mem_cons_of_mem _ hx); simp; omega
  have := this s x hx
  unfold sm at *; omega
theorem spl_length_le : ∀ s : List UInt8, (spl s).length ≤ s.length + 1
  | [] => by simp [spl]
  | c :: r => by
    have ih := spl_length_le r
    by_cases hc : c = 47
    · subst hc
      rw [spl_stroke]; simp; omega
    · cases hs : spl r with
      | nil => exact absurd hs (spl_ne r)
      | cons h t =>
        rw [spl_cons hc hs]
        rw [hs] at ih
        simp at ih ⊢; omega
/-- What Names hands back. -/
def namesV (s : List UInt8) : SV := if rightB s = true then .sl (ssv (spl s)) (spl s).length .ro else .nilS
theorem namesV_rdS (s : List UInt8) : rdS (namesV s) (namesOf s) := by
  unfold namesV
  cases h : rightB s with
  | true => rw [if_pos rfl, names_right h]; exact .inr rfl
  | false => rw [if_neg (by simp), names_wrong h]; exact .inl ⟨rfl, rfl⟩
set_option maxHeartbeats 8000000 in
theorem f11 (s : List UInt8) (hs : sm s) (st : List Ob) : swpF O6 sf46 [.str s] st (fun r st' => r = namesV s ∧ st' = st) := by
  have hll := spl_length_le s
  simp (maxSteps := 2000000) (disch := first | omega | (simp only [List.length_append, List.length_cons, List.length_nil, List.length_map] <;> omega)) only [sf46, flg_nilS, exc_str, swp_seq, swp_reg, seqK_n, evK_some, appK_eq, srun_nil, srun_cons, stepK_call, swpF_eq, sk_mv, sk_give, get_mk, raw_slot, raw_lit, put_some, wb_nil, ev_mv, ev_give, ro_str, ro_nilS, got_str, pubs, pubsFrom, List.map_cons, List.map_nil, List.getD_cons_zero, List.set_cons_zero, List.set_cons_succ, List.length_cons, List.length_nil, List.replicate_succ, List.replicate_zero, List.cons_append, List.nil_append, Nat.reduceSub, Bool.false_eq_true, ↓reduceIte, Nat.zero_add]
  refine callK_intro (o6_27 hs st) ?_
  by_cases h4 : (spl s).length ≤ 4
  case neg =>
    have d1 : decide ((4 : Int) < ((spl s).length : Int)) = true := by rw [decide_eq_true_eq]; omega
    have hr : rightB s = false := by rw [rightB, decide_eq_false h4]; rfl
    have e : namesV s = .nilS := by unfold namesV; rw [hr]; rfl
    rw [e]
    simp (maxSteps := 2000000) (disch := first | omega | (simp only [List.length_append, List.length_cons, List.length_nil, List.length_map] <;> omega)) only [d1, flg_nilS, flg_ro, swp_seq, swp_reg, swp_ret, swp_cond, seqK_n, seqK_r, condK_t, evK_some, appK_eq, appC_eq, srun_nil, srun_cons, fin_ret, sk_mv, sk_give, sk_bin, sk_lenL, get_mk, raw_slot, raw_lit, put_some, wb_nil, ev_mv, ev_give, ev_lenL, bin_gtr, ro_nilS, ro_ro, List.map_cons, List.map_nil, List.getD_cons_zero, List.getD_cons_succ, List.set_cons_zero, List.set_cons_succ, true_and, Bool.false_eq_true, ↓reduceIte, gt_iff_lt]
    first | exact ⟨_, .same⟩ | exact ⟨_, .same, rfl⟩ | exact ⟨_, .same, rfl, rfl⟩
  have d1 : decide ((4 : Int) < ((spl s).length : Int)) = false := by rw [decide_eq_false_iff_not]; omega
  have hr : rightB s = (spl s).all nameB := by rw [rightB, decide_eq_true h4, Bool.true_and]
  have hm : ∀ x ∈ spl s, sm x := fun x hx => spl_sm hs hx
  have hnv : namesV s = if (spl s).all nameB = true then .sl (ssv (spl s)) (spl s).length .ro else .nilS := by unfold namesV; rw [hr]
  rw [hnv]
  generalize spl s = l at *
  have hsl := ssv_len l
  simp (maxSteps := 2000000) (disch := first | omega | (simp only [List.length_append, List.length_cons, List.length_nil, List.length_map] <;> omega)) only [d1, flg_ro, swp_seq, swp_reg, swp_skip, swp_block, swp_cond, seqK_n, condK_f, evK_some, appK_eq, appC_eq, srun_nil, srun_cons, sk_mv, sk_give, sk_bin, sk_lenL, get_mk, raw_slot, raw_lit, put_some, wb_nil, ev_mv, ev_give, ev_lenL, bin_gtr, ro_int, ro_ro, List.map_cons, List.map_nil, List.getD_cons_zero, List.getD_cons_succ, List.set_cons_zero, List.set_cons_succ, Bool.false_eq_true, ↓reduceIte, gt_iff_lt]
  refine swp_lp (fun S => ∃ (i : Nat), i ≤ l.length ∧ (l.take i).all nameB = true ∧
      S = ⟨[.str s, .undef, .nilS, .sl (ssv l) l.length .ro, .undef, .undef, .undef, .undef, .undef, .undef, .undef, .sl (ssv l) l.length .ro, .int .i64 l.length, .int .i64 i] ++ List.replicate 8 .undef, st⟩)
      (fun S => match S.get 13 with | .int _ k => ((l.length : Int) - k).toNat | _ => 0)
      ⟨[.str s, .undef, .nilS, .sl (ssv l) l.length .ro, .undef, .undef, .undef, .undef, .undef, .undef, .undef, .sl (ssv l) l.length .ro, .int .i64 l.length, .int .i64 0] ++ List.replicate 8 .undef, st⟩ ?_ ⟨0, Nat.zero_le _, rfl, rfl⟩ ?_
  · refine Forget.of ?_
    repeat first | exact fg_e | refine fg_d ?_ | refine fg_k rfl ?_
  rintro S ⟨i, hi, hall, rfl⟩
  by_cases him : i = l.length
  · have hd : decide ((i : Int) < (l.length : Int)) = false := by rw [decide_eq_false_iff_not]; omega
    rw [him, List.take_length] at hall
    rw [hall]
    simp (maxSteps := 2000000) (disch := first | omega | (simp only [List.length_append, List.length_cons, List.length_nil, List.length_map] <;> omega)) only [hd, lpK_e, flg_ro, swp_seq, swp_reg, swp_ret, swp_exit, swp_cond, seqK_n, seqK_e, blkK_e, condK_f, evK_some, appK_eq, srun_nil, srun_cons, fin_ret, sk_mv, sk_give, sk_bin, get_mk, raw_slot, put_some, wb_nil, ev_mv, ev_give, bin_lss, ro_ro, List.map_cons, List.map_nil, List.getD_cons_zero, List.getD_cons_succ, List.set_cons_zero, List.set_cons_succ, List.replicate_succ, List.replicate_zero, List.cons_append, List.nil_append, true_and, Bool.false_eq_true, ↓reduceIte]
    first | exact ⟨_, .same⟩ | exact ⟨_, .same, rfl⟩ | exact ⟨_, .same, rfl, rfl⟩
  have hd : decide ((i : Int) < (l.length : Int)) = true := by rw [decide_eq_true_eq]; omega
  have hil : i < l.length := by omega
  have hat := ssv_at l i l[i] (List.getElem?_eq_getElem hil)
  have fin : ((l.length : Int) - ((i + 1 : Nat) : Int)).toNat < ((l.length : Int) - (i : Int)).toNat := by omega
  have k14 : O6 58 [.str l[i]] st (.bool (nameB l[i])) st := (by repeat first | exact Or.inr ⟨rfl, rfl, _, hm _ (List.getElem_mem hil), rfl, rfl⟩ | refine Or.inl ?_)
  simp (maxSteps := 2000000) (disch := first | omega | (simp only [List.length_append, List.length_cons, List.length_nil, List.length_map] <;> omega)) only [hd, hat, Int.toNat_natCast, flg_str, exc_str, sk_idxB, idxB_ro, swp_seq, swp_reg, swp_skip, swp_block, swp_cond, seqK_n, condK_t, evK_some, appK_eq, srun_nil, srun_cons, stepK_call, sk_mv, sk_give, sk_bin, sk_load, get_mk, raw_slot, put_some, wb_nil, ev_mv, ev_give, bin_lss, ev_loadE, ro_str, got_str, pubs, pubsFrom, List.map_cons, List.map_nil, List.getD_cons_zero, List.getD_cons_succ, List.set_cons_zero, List.set_cons_succ, List.replicate_succ, List.replicate_zero, List.cons_append, List.nil_append, Bool.false_eq_true, Option.map_some, ↓reduceIte, Nat.mul_one]
  refine callK_intro k14 ?_
  cases hn : nameB l[i] with
  | false =>
    have hf : l.all nameB = false := by
      rw [List.all_eq_false]
      exact ⟨_, List.getElem_mem hil, by rw [hn]; simp⟩
    rw [hf]
    simp (maxSteps := 2000000) (disch := first | omega | (simp only [List.length_append, List.length_cons, List.length_nil, List.length_map] <;> omega)) only [lpK_r, flg_nilS, swp_seq, swp_reg, swp_ret, swp_cond, seqK_n, seqK_r, blkK_r, condK_t, evK_some, appK_eq, appC_eq, srun_nil, srun_cons, fin_ret, sk_give, sk_un, get_mk, raw_slot, raw_lit, put_some, wb_nil, ev_give, ev_not, ro_nilS, List.map_cons, List.map_nil, List.getD_cons_zero, List.getD_cons_succ, List.set_cons_zero, List.set_cons_succ, true_and, Bool.false_eq_true, ↓reduceIte, Bool.not_false]
    first | exact ⟨_, .same⟩ | exact ⟨_, .same, rfl⟩ | exact ⟨_, .same, rfl, rfl⟩
  | true =>
    simp (maxSteps := 2000000) (disch := first | omega | (simp only [List.length_append, List.length_cons, List.length_nil, List.length_map] <;> omega)) only [lpK_n, swp_reg, swp_skip, swp_cond, seqK_n, blkK_n, condK_f, evK_some, appK_eq, appC_eq, srun_nil, srun_cons, sk_mv, sk_bin, sk_un, get_mk, raw_slot, raw_lit, put_some, wb_nil, ev_mv, ev_not, bin_add, ro_int, List.map_cons, List.map_nil, List.getD_cons_zero, List.getD_cons_succ, List.set_cons_zero, List.set_cons_succ, Bool.not_true, wrap_i64]
    refine ⟨_, ?_, ⟨i + 1, by omega, by rw [← List.take_append_getElem hil, List.all_append, hall]; simp [hn], rfl⟩, fin⟩
    refine Forget.of ?_
    repeat first | exact fg_e | refine fg_d ?_ | refine fg_k rfl ?_
def KNames : List SV → SV → Prop := fun args r => ∃ s : List UInt8, sm s ∧ args = [.str s] ∧ r = namesV s
def O7 : Orc := O6.add 46 (FnC KNames)
theorem s7 : Sound Tryd.prog O7 := s6.addP c46 (by kernel_rfl) (by
  rintro args r ⟨s, hs, rfl, rfl⟩
  exact ⟨by simp [sf46], fun st => f11 s hs st⟩)
theorem f16 (s : List UInt8) (hs : sm s) (st : List Ob) : swpF O7 sf35 [.str s] st (fun r st' => r = .bool (rightB s) ∧ st' = st) := by
  obtain ⟨q1, q2, q3, q4, q5⟩ := rdS_facts (namesV_rdS s)
  simp (maxSteps := 2000000) (disch := first | omega | (simp only [List.length_append, List.length_cons, List.length_nil, List.length_map] <;> omega)) only [sf35, flg_bool, exc_str, swp_seq, swp_reg, seqK_n, evK_some, appK_eq, srun_nil, srun_cons, stepK_call, swpF_eq, sk_mv, sk_give, get_mk, raw_slot, raw_lit, put_some, wb_nil, ev_mv, ev_give, ro_bool, ro_str, got_str, pubs, pubsFrom, List.map_cons, List.map_nil, List.getD_cons_zero, List.set_cons_zero, List.set_cons_succ, List.length_cons, List.length_nil, List.replicate_succ, List.replicate_zero, List.cons_append, List.nil_append, Nat.reduceSub, Bool.false_eq_true, ↓reduceIte, Nat.zero_add]
  refine callK_intro ((by repeat first | exact Or.inr ⟨rfl, rfl, s, hs, rfl, rfl⟩ | refine Or.inl ?_)) ?_
  rw [right_names]
  have e : decide ((0 : Int) < ((namesOf s).length : Int)) = decide (0 < (namesOf s).length) := by rw [decide_eq_decide]; omega
  simp (maxSteps := 2000000) (disch := first | omega | (simp only [List.length_append, List.length_cons, List.length_nil, List.length_map] <;> omega)) only [q5, e, flg_bool, swp_ret, seqK_n, evK_some, appK_eq, appC_eq, srun_nil, srun_cons, fin_ret, sk_give, sk_bin, sk_lenL, get_mk, raw_slot, raw_lit, put_some, wb_nil, ev_give, bin_gtr, ro_bool, List.map_cons, List.map_nil, List.getD_cons_zero, List.getD_cons_succ, List.set_cons_zero, List.set_cons_succ, true_and, Bool.false_eq_true, ↓reduceIte, gt_iff_lt]
  first | exact ⟨_, .same⟩ | exact ⟨_, .same, rfl⟩ | exact ⟨_, .same, rfl, rfl⟩
def KRight : List SV → SV → Prop := fun args r => ∃ s : List UInt8, sm s ∧ args = [.str s] ∧ r = .bool (rightB s)
def O8 : Orc := O7.add 35 (FnC KRight)
theorem s8 : Sound Tryd.prog O8 := s7.addP c35 (by kernel_rfl) (by
  rintro args r ⟨s, hs, rfl, rfl⟩
  exact ⟨by simp [sf35], fun st => f16 s hs st⟩)
/-- Names that are few and short enough to be joined. -/
def smL (l : List (List UInt8)) : Prop := l.flatten.length ≤ 134217728 ∧ l.length ≤ 134217728
theorem jn_sm {l : List (List UInt8)} (h : smL l) : sm (jn l) := by
  have := jn_len l
  unfold sm smL at *; omega
theorem f18 (v : SV) (l : List (List UInt8)) (hl : smL l) (hv : rdS v l) (st : List Ob) : swpF O8 sf47 [v] st (fun r st' => r = .str (joinP l) ∧ st' = st) := by
  obtain ⟨q1, q2, q3, q4, q5⟩ := rdS_facts hv
  obtain ⟨t1, t2, t3, t4, t5⟩ := rdS_facts (namesV_rdS (jn l))
  have hjs := jn_sm hl
  have k30 : O8 59 [v, .str [47]] st (.str (jn l)) st := by
    refine (by repeat first | exact Or.inr ⟨rfl, rfl, v, l, isStrs_of hv, by unfold smL at hl; omega, by unfold smL at hl; omega, by simp, rfl, by rw [join_jn]⟩ | refine Or.inl ?_)
  simp (maxSteps := 2000000) (disch := first | omega | (simp only [List.length_append, List.length_cons, List.length_nil, List.length_map] <;> omega)) only [sf47, q1, q2, q3, flg_str, exc_str, swp_seq, swp_reg, seqK_n, evK_some, appK_eq, srun_nil, srun_cons, stepK_call, swpF_eq, sk_mv, sk_give, get_mk, raw_slot, raw_lit, put_some, wb_nil, ev_mv, ev_give, ro_str, got_str, pubs, pubsFrom, List.map_cons, List.map_nil, List.getD_cons_zero, List.set_cons_zero, List.set_cons_succ, List.length_cons, List.length_nil, List.replicate_succ, List.replicate_zero, List.cons_append, List.nil_append, Nat.reduceSub, Bool.false_eq_true, ↓reduceIte, Nat.zero_add]
  refine callK_intro k30 ?_
  simp (maxSteps := 2000000) (disch := first | omega | (simp only [List.length_append, List.length_cons, List.length_nil, List.length_map] <;> omega)) only [flg_str, exc_str, swp_seq, swp_reg, seqK_n, evK_some, appK_eq, appC_eq, srun_nil, srun_cons, stepK_call, sk_mv, sk_give, get_mk, raw_slot, put_some, wb_nil, ev_mv, ev_give, ro_str, got_str, pubs, pubsFrom, List.map_cons, List.map_nil, List.getD_cons_zero, List.getD_cons_succ, List.set_cons_zero, List.set_cons_succ, Bool.false_eq_true, ↓reduceIte]
  refine callK_intro ((by repeat first | exact Or.inr ⟨rfl, rfl, jn l, hjs, rfl, rfl⟩ | refine Or.inl ?_)) ?_
  unfold joinP
  by_cases h : (namesOf (jn l)).length = l.length
  · have d : (((namesOf (jn l)).length : Int) != (l.length : Int)) = false := by simp [h]
    rw [if_pos h]
    simp (maxSteps := 2000000) (disch := first | omega | (simp only [List.length_append, List.length_cons, List.length_nil, List.length_map] <;> omega)) only [d, q1, q5, t5, flg_str, swp_seq, swp_reg, swp_skip, swp_ret, swp_cond, seqK_n, condK_f, evK_some, appK_eq, appC_eq, srun_nil, srun_cons, fin_ret, sk_mv, sk_give, sk_bin, sk_lenL, get_mk, raw_slot, put_some, wb_nil, ev_mv, ev_give, bin_neq, ro_str, List.map_cons, List.map_nil, List.getD_cons_zero, List.getD_cons_succ, List.set_cons_zero, List.set_cons_succ, true_and, Bool.false_eq_true, ↓reduceIte]
    first | exact ⟨_, .same⟩ | exact ⟨_, .same, rfl⟩ | exact ⟨_, .same, rfl, rfl⟩
  · have d : (((namesOf (jn l)).length : Int) != (l.length : Int)) = true := by simp; omega
    rw [if_neg h]
    simp (maxSteps := 2000000) (disch := first | omega | (simp only [List.length_append, List.length_cons, List.length_nil, List.length_map] <;> omega)) only [d, q1, q5, t5, flg_str, swp_seq, swp_reg, swp_ret, swp_cond, seqK_n, seqK_r, condK_t, evK_some, appK_eq, appC_eq, srun_nil, srun_cons, fin_ret, sk_mv, sk_give, sk_bin, sk_lenL, get_mk, raw_slot, raw_lit, put_some, wb_nil, ev_mv, ev_give, bin_neq, ro_str, List.map_cons, List.map_nil, List.getD_cons_zero, List.getD_cons_succ, List.set_cons_zero, List.set_cons_succ, true_and, Bool.false_eq_true, ↓reduceIte]
    first | exact ⟨_, .same⟩ | exact ⟨_, .same, rfl⟩ | exact ⟨_, .same, rfl, rfl⟩
def KJoinP : List SV → SV → Prop := fun args r => ∃ v l, smL l ∧ rdS v l ∧ args = [v] ∧ r = .str (joinP l)
def O9 : Orc := O8.add 47 (FnC KJoinP)
theorem s9 : Sound Tryd.prog O9 := s8.addP c47 (by kernel_rfl) (by
  rintro args r ⟨v, l, hl, hv, rfl, rfl⟩
  exact ⟨by simp [sf47], fun st => f18 v l hl hv st⟩)
theorem names_smL {s : List UInt8} (hs : sm s) (n : Nat) : smL ((namesOf s).take n) := by
  have h4 : (namesOf s).length ≤ 4 := by
    unfold namesOf; split
    · rename_i h; exact h.1
    · simp
  have h12 : ∀ x ∈ namesOf s, x.length ≤ 12 := by
    intro x hx
    unfold namesOf at hx
    split at hx
    · rename_i h
      have := List.all_eq_true.1 h.2 x hx
      simp only [nameB, Bool.and_eq_true, decide_eq_true_eq] at this
      exact this.1.1.1.2
    · cases hx
  have key : ∀ l : List (List UInt8), (∀ x ∈ l, x.length ≤ 12) → l.flatten.length ≤ l.length * 12 := by
    intro l
    induction l with
    | nil => intro _; simp
    | cons a l ih =>
      intro h
      have h1 := h a List.mem_cons_self
      have h2 := ih fun x hx => h x (List.mem_cons_of_mem _ hx)
      simp only [List.flatten_cons, List.length_append, List.length_cons]; omega
  have := key ((namesOf s).take n) fun x hx => h12 x (List.mem_of_mem_take hx)
  have h5 : ((namesOf s).take n).length ≤ 4 := by rw [List.length_take]; omega
  unfold smL; omega
theorem names_le4 (s : List UInt8) : (namesOf s).length ≤ 4 := by
  unfold namesOf; split
  · rename_i h; exact h.1
  · simp
theorem f20 (s : List UInt8) (hs : sm s) (st : List Ob) : swpF O9 sf31 [.str s] st (fun r st' => r = .str (parentB s) ∧ st' = st) := by
  obtain ⟨t1, t2, t3, t4, t5⟩ := rdS_facts (namesV_rdS s)
  have h4 := names_le4 s
  simp (maxSteps := 2000000) (disch := first | omega | (simp only [List.length_append, List.length_cons, List.length_nil, List.length_map] <;> omega)) only [sf31, flg_str, exc_str, swp_seq, swp_reg, seqK_n, evK_some, appK_eq, srun_nil, srun_cons, stepK_call, swpF_eq, sk_mv, sk_give, get_mk, raw_slot, raw_lit, put_some, wb_nil, ev_mv, ev_give, ro_str, got_str, pubs, pubsFrom, List.map_cons, List.map_nil, List.getD_cons_zero, List.set_cons_zero, List.set_cons_succ, List.length_cons, List.length_nil, List.replicate_succ, List.replicate_zero, List.cons_append, List.nil_append, Nat.reduceSub, Bool.false_eq_true, ↓reduceIte, Nat.zero_add]
  refine callK_intro ((by repeat first | exact Or.inr ⟨rfl, rfl, s, hs, rfl, rfl⟩ | refine Or.inl ?_)) ?_
  obtain ⟨m, hm, hm2⟩ : ∃ m : Nat, (if (0 : Int) < ((namesOf s).length : Int) - 1 then ((namesOf s).length : Int) - 1 else 0) = (m : Int) ∧ m = (namesOf s).length - 1 := by
    refine ⟨(namesOf s).length - 1, ?_, rfl⟩
    split <;> omega
  have hsl := ssv_len (namesOf s)
  have hls := names_smL hs m
  unfold parentB
  rw [← hm2]
  rcases namesV_rdS s with ⟨e, h0⟩ | e
  · have hm0 : m = 0 := by rw [hm2, h0]; rfl
    subst hm0
    have k18 : O9 47 [.nilS] st (.str (joinP ((namesOf s).take 0))) st := (by repeat first | exact Or.inr ⟨rfl, rfl, .nilS, _, hls, .inl ⟨rfl, by simp⟩, rfl, rfl⟩ | refine Or.inl ?_)
    rw [e] at t5 ⊢
    have z : ∀ st, ev st (.slcL 1 false true false) [.nilS, .int .i64 0] = some (.nilS, [], st) := fun st => slcL_nil_hi
    rw [h0] at hm
    simp only [List.length_nil, Int.natCast_zero] at hm
    simp (maxSteps := 2000000) (disch := first | omega | (simp only [List.length_append, List.length_cons, List.length_nil, List.length_map] <;> omega)) only [flg_nilS, exc_nilS, swp_seq, swp_reg, seqK_n, evK_some, appK_eq, appC_eq, srun_nil, srun_cons, stepK_call, sk_mv, sk_give, sk_bin, sk_lenL, sk_max, sk_slcL, get_mk, raw_slot, raw_lit, put_some, wb_nil, ev_mv, ev_give, ev_lenN, ev_max, bin_sub, slcL_nil_hi, ro_nilS, got_nilS, pubs, pubsFrom, List.map_cons, List.map_nil, List.getD_cons_zero, List.getD_cons_succ, List.set_cons_zero, List.set_cons_succ, Bool.false_eq_true, ↓reduceIte, gt_iff_lt, Int.reduceLT, Int.reduceSub, Int.reduceNeg, wrap_i64]
    refine callK_intro k18 ?_
    simp (maxSteps := 2000000) (disch := first | omega | (simp only [List.length_append, List.length_cons, List.length_nil, List.length_map] <;> omega)) only [flg_str, swp_ret, seqK_n, evK_some, appK_eq, appC_eq, srun_nil, srun_cons, fin_ret, sk_give, get_mk, raw_slot, put_some, wb_nil, ev_give, ro_str, List.map_cons, List.map_nil, List.getD_cons_zero, List.getD_cons_succ, List.set_cons_zero, List.set_cons_succ, true_and, Bool.false_eq_true, ↓reduceIte, Int.reduceNeg]
    first | exact ⟨_, .same⟩ | exact ⟨_, .same, rfl⟩ | exact ⟨_, .same, rfl, rfl⟩
  · have hml : m ≤ (namesOf s).length := by omega
    have k18 : O9 47 [.sl (ssv ((namesOf s).take m)) m .ro] st (.str (joinP ((namesOf s).take m))) st := (by repeat first | exact Or.inr ⟨rfl, rfl, _, _, hls, .inr (by rw [List.length_take, Nat.min_eq_left hml]), rfl, rfl⟩ | refine Or.inl ?_)
    have z : ∀ st, ev st (.slcL 1 false true false) [.sl (ssv (namesOf s)) (namesOf s).length .ro, .int .i64 (m : Int)] = some (.sl (ssv ((namesOf s).take m)) m .ro, [], st) := fun st => by
      rw [slcL_hi_ro (by omega) (by omega) (by omega)]
      simp [ssv_take]
    rw [e] at t5 ⊢
    simp (maxSteps := 2000000) (disch := first | omega | (simp only [List.length_append, List.length_cons, List.length_nil, List.length_map] <;> omega)) only [hm, z, flg_ro, exc_ro, swp_seq, swp_reg, seqK_n, evK_some, appK_eq, appC_eq, srun_nil, srun_cons, stepK_call, sk_mv, sk_give, sk_bin, sk_lenL, sk_max, sk_slcL, get_mk, raw_slot, raw_lit, put_some, wb_nil, ev_mv, ev_give, ev_lenL, ev_max, bin_sub, ro_ro, got_roo, pubs, pubsFrom, List.map_cons, List.map_nil, List.getD_cons_zero, List.getD_cons_succ, List.set_cons_zero, List.set_cons_succ, Bool.false_eq_true, ↓reduceIte, gt_iff_lt, wrap_i64]
    refine callK_intro k18 ?_
    simp (maxSteps := 2000000) (disch := first | omega | (simp only [List.length_append, List.length_cons, List.length_nil, List.length_map] <;> omega)) only [flg_str, swp_ret, seqK_n, evK_some, appK_eq, appC_eq, srun_nil, srun_cons, fin_ret, sk_give, get_mk, raw_slot, put_some, wb_nil, ev_give, ro_str, List.map_cons, List.map_nil, List.getD_cons_zero, List.getD_cons_succ, List.set_cons_zero, List.set_cons_succ, true_and, Bool.false_eq_true, ↓reduceIte]
    first | exact ⟨_, .same⟩ | exact ⟨_, .same, rfl⟩ | exact ⟨_, .same, rfl, rfl⟩
def KParent : List SV → SV → Prop := fun args r => ∃ s : List UInt8, sm s ∧ args = [.str s] ∧ r = .str (parentB s)
def O10 : Orc := O9.add 31 (FnC KParent)
theorem s10 : Sound Tryd.prog O10 := s9.addP c31 (by kernel_rfl) (by
  rintro args r ⟨s, hs, rfl, rfl⟩
  exact ⟨by simp [sf31], fun st => f20 s hs st⟩)
theorem o10_16 {s : List UInt8} (hs : sm s) (st : List Ob) : O10 35 [.str s] st (.bool (rightB s)) st := (by repeat first | exact Or.inr ⟨rfl, rfl, s, hs, rfl, rfl⟩ | refine Or.inl ?_)
theorem f24 (s d : List UInt8) (hs : sm s) (hd : sm d) (st : List Ob) : swpF O10 sf30 [.str s, .str d] st (fun r st' => r = .bool (underB s d) ∧ st' = st) := by
  have k31 : O10 45 [.str s, .str (d ++ [47])] st (.bool ((d ++ [47]).isPrefixOf s)) st := (by repeat first | exact Or.inr ⟨rfl, rfl, s, d ++ [47], rfl, rfl⟩ | refine Or.inl ?_)
  unfold underB
  simp (maxSteps := 2000000) (disch := first | omega | (simp only [List.length_append, List.length_cons, List.length_nil, List.length_map] <;> omega)) only [sf30, flg_bool, exc_str, swp_seq, swp_reg, seqK_n, evK_some, appK_eq, srun_nil, srun_cons, stepK_call, swpF_eq, sk_mv, sk_give, get_mk, raw_slot, raw_lit, put_some, wb_nil, ev_mv, ev_give, ro_bool, ro_str, got_str, pubs, pubsFrom, List.map_cons, List.map_nil, List.getD_cons_zero, List.set_cons_zero, List.set_cons_succ, List.length_cons, List.length_nil, List.replicate_succ, List.replicate_zero, List.cons_append, List.nil_append, Nat.reduceAdd, Nat.reduceSub, Bool.false_eq_true, ↓reduceIte, Nat.zero_add]
  refine callK_intro (o10_16 hs st) ?_
  have hda : d.length + ([47] : List UInt8).length ≤ 1073741824 := by unfold sm at hd; simp; omega
  cases h1 : rightB s with
  | false =>
    simp (maxSteps := 2000000) (disch := first | omega | (simp only [List.length_append, List.length_cons, List.length_nil, List.length_map] <;> omega)) only [flg_bool, swp_ret, seqK_n, evK_some, appK_eq, appC_eq, grd_t, srun_nil, srun_cons, stepK_grd, fin_ret, sk_mv, sk_give, sk_pick, get_mk, raw_slot, raw_lit, put_some, wb_nil, ev_mv, ev_give, ev_pick, ro_bool, List.map_cons, List.map_nil, List.getD_cons_zero, List.getD_cons_succ, List.set_cons_zero, List.set_cons_succ, Bool.false_eq_true, ↓reduceIte]
    first | exact ⟨_, .same⟩ | exact ⟨_, .same, rfl⟩ | exact ⟨_, .same, rfl, rfl⟩
  | true =>
    simp (maxSteps := 2000000) (disch := first | omega | (simp only [List.length_append, List.length_cons, List.length_nil, List.length_map] <;> omega)) only [exc_str, evK_some, appK_eq, appC_eq, grd_t, srun_cons, stepK_call, stepK_grd, sk_mv, sk_take, get_mk, raw_slot, put_some, wb_nil, ev_mv, ev_take, ro_bool, got_str, pubs, pubsFrom, List.map_cons, List.map_nil, List.getD_cons_zero, List.getD_cons_succ, List.set_cons_zero, List.set_cons_succ, Bool.false_eq_true, ↓reduceIte]
    refine callK_intro (o10_16 hd st) ?_
    cases h2 : rightB d with
    | false =>
      simp (maxSteps := 2000000) (disch := first | omega | (simp only [List.length_append, List.length_cons, List.length_nil, List.length_map] <;> omega)) only [flg_bool, swp_ret, seqK_n, evK_some, appK_eq, appC_eq, grd_t, srun_nil, srun_cons, stepK_grd, fin_ret, sk_mv, sk_give, sk_pick, get_mk, raw_slot, raw_lit, put_some, wb_nil, ev_mv, ev_give, ev_pick, ro_bool, List.map_cons, List.map_nil, List.getD_cons_zero, List.getD_cons_succ, List.set_cons_zero, List.set_cons_succ, Bool.false_eq_true, ↓reduceIte]
      first | exact ⟨_, .same⟩ | exact ⟨_, .same, rfl⟩ | exact ⟨_, .same, rfl, rfl⟩
    | true =>
      simp (maxSteps := 2000000) (disch := first | omega | (simp only [List.length_append, List.length_cons, List.length_nil, List.length_map] <;> omega)) only [bin_addS hda, exc_str, evK_some, appK_eq, appC_eq, grd_t, srun_cons, stepK_call, stepK_grd, sk_mv, sk_take, sk_pick, sk_bin, get_mk, raw_slot, raw_lit, put_some, wb_nil, ev_mv, ev_take, ev_pick, ro_bool, got_str, pubs, pubsFrom, List.map_cons, List.map_nil, List.getD_cons_zero, List.getD_cons_succ, List.set_cons_zero, List.set_cons_succ, Bool.false_eq_true, ↓reduceIte, Bool.and_self]
      refine callK_intro k31 ?_
      simp (maxSteps := 2000000) (disch := first | omega | (simp only [List.length_append, List.length_cons, List.length_nil, List.length_map] <;> omega)) only [flg_bool, swp_ret, seqK_n, evK_some, appK_eq, appC_eq, srun_nil, srun_cons, fin_ret, sk_give, sk_pick, get_mk, raw_slot, raw_lit, put_some, wb_nil, ev_give, ev_pick, ro_bool, List.map_cons, List.map_nil, List.getD_cons_zero, List.getD_cons_succ, List.set_cons_zero, List.set_cons_succ, Bool.false_eq_true, ↓reduceIte]
      first | exact ⟨_, .same⟩ | exact ⟨_, .same, rfl⟩ | exact ⟨_, .same, rfl, rfl⟩
def KUnder : List SV → SV → Prop := fun args r => ∃ s d : List UInt8, sm s ∧ sm d ∧ args = [.str s, .str d] ∧ r = .bool (underB s d)
def O11 : Orc := O10.add 30 (FnC KUnder)
theorem s11 : Sound Tryd.prog O11 := s10.addP c30 (by kernel_rfl) (by
  rintro args r ⟨s, d, hs, hd, rfl, rfl⟩
  exact ⟨by simp [sf30], fun st => f24 s d hs hd st⟩)
theorem f26 (s d : List UInt8) (hs : sm s) (hd : sm d) (st : List Ob) : swpF O11 sf33 [.str s, .str d] st (fun r st' => r = .bool (clashB s d) ∧ st' = st) := by
  unfold clashB
  simp (maxSteps := 2000000) (disch := first | omega | (simp only [List.length_append, List.length_cons, List.length_nil, List.length_map] <;> omega)) only [sf33, flg_bool, exc_str, swp_seq, swp_reg, seqK_n, evK_some, appK_eq, srun_nil, srun_cons, stepK_call, swpF_eq, sk_mv, sk_give, get_mk, raw_slot, raw_lit, put_some, wb_nil, ev_mv, ev_give, ro_bool, ro_str, got_str, pubs, pubsFrom, List.map_cons, List.map_nil, List.getD_cons_zero, List.getD_cons_succ, List.set_cons_zero, List.set_cons_succ, List.length_cons, List.length_nil, List.replicate_succ, List.replicate_zero, List.cons_append, List.nil_append, Nat.reduceAdd, Nat.reduceSub, Bool.false_eq_true, ↓reduceIte, Nat.zero_add]
  refine callK_intro ((by repeat first | exact Or.inr ⟨rfl, rfl, s, d, hs, hd, rfl, rfl⟩ | refine Or.inl ?_)) ?_
  cases h1 : underB s d with
  | true =>
    simp (maxSteps := 2000000) (disch := first | omega | (simp only [List.length_append, List.length_cons, List.length_nil, List.length_map] <;> omega)) only [flg_bool, swp_ret, seqK_n, evK_some, appK_eq, appC_eq, grd_t, srun_nil, srun_cons, stepK_grd, fin_ret, sk_mv, sk_give, sk_pick, get_mk, raw_slot, raw_lit, put_some, wb_nil, ev_mv, ev_give, ev_pick, ro_bool, List.map_cons, List.map_nil, List.getD_cons_zero, List.getD_cons_succ, List.set_cons_zero, List.set_cons_succ, Bool.false_eq_true, ↓reduceIte, reduceCtorEq]
    first | exact ⟨_, .same⟩ | exact ⟨_, .same, rfl⟩ | exact ⟨_, .same, rfl, rfl⟩
  | false =>
    simp (maxSteps := 2000000) (disch := first | omega | (simp only [List.length_append, List.length_cons, List.length_nil, List.length_map] <;> omega)) only [exc_str, evK_some, appK_eq, appC_eq, grd_t, srun_cons, stepK_call, stepK_grd, sk_mv, sk_take, get_mk, raw_slot, put_some, wb_nil, ev_mv, ev_take, ro_bool, got_str, pubs, pubsFrom, List.map_cons, List.map_nil, List.getD_cons_zero, List.getD_cons_succ, List.set_cons_zero, List.set_cons_succ, Bool.false_eq_true, ↓reduceIte]
    refine callK_intro ((by repeat first | exact Or.inr ⟨rfl, rfl, d, s, hd, hs, rfl, rfl⟩ | refine Or.inl ?_)) ?_
    simp (maxSteps := 2000000) (disch := first | omega | (simp only [List.length_append, List.length_cons, List.length_nil, List.length_map] <;> omega)) only [flg_bool, swp_ret, seqK_n, evK_some, appK_eq, appC_eq, srun_nil, srun_cons, fin_ret, sk_give, sk_pick, get_mk, raw_slot, raw_lit, put_some, wb_nil, ev_give, ev_pick, ro_bool, List.map_cons, List.map_nil, List.getD_cons_zero, List.getD_cons_succ, List.set_cons_zero, List.set_cons_succ, Bool.false_eq_true, ↓reduceIte]
    first | exact ⟨_, .same⟩ | exact ⟨_, .same, rfl⟩ | exact ⟨_, .same, rfl, rfl⟩
def KClash : List SV → SV → Prop := fun args r => ∃ s d : List UInt8, sm s ∧ sm d ∧ args = [.str s, .str d] ∧ r = .bool (clashB s d)
def O12 : Orc := O11.add 33 (FnC KClash)
theorem s12 : Sound Tryd.prog O12 := s11.addP c33 (by kernel_rfl) (by
  rintro args r ⟨s, d, hs, hd, rfl, rfl⟩
  exact ⟨by simp [sf33], fun st => f26 s d hs hd st⟩)
end Go.Sh.F
namespace Go.Sh.F
open Go.PathLaw Go.Proofs
theorem bin_leqS {st : List Ob} {x y : List UInt8} : ev st (.bin .leq) [.str x, .str y] = some (.bool (Op.bytesLess x y || x == y), [], st) := rfl
theorem bin_gtrS {st : List Ob} {x y : List UInt8} : ev st (.bin .gtr) [.str x, .str y] = some (.bool (!(Op.bytesLess x y || x == y)), [], st) := rfl
theorem leq_lt (x y : List UInt8) : (Op.bytesLess x y || x == y) = !(lt y x) := by
  rcases lt_total x y with rfl | h | h
  · rw [show Op.bytesLess x x = lt x x from rfl, lt_irrefl]; simp
  · rw [show Op.bytesLess x y = lt x y from rfl, h, lt_asymm h]; rfl
  · rw [show Op.bytesLess x y = lt x y from rfl, h, lt_asymm h]
    have : (x == y) = false := by
      rw [beq_eq_false_iff_ne]; rintro rfl; rw [lt_irrefl] at h; cases h
    rw [this]; rfl
/-- As far as the loop has come. -/
def srtTo (l : List (List UInt8)) (i : Nat) : Prop := ∀ j (h : j < l.length), j < i → rightB l[j] = true ∧ (0 < j → lt (l[j - 1]'(by omega)) l[j] = true)
theorem srtTo_all {l : List (List UInt8)} : sortedB l = true ↔ srtTo l l.length := by
  rw [sorted_at]
  exact ⟨fun h j hj _ => h j hj, fun h j hj => h j hj hj⟩
theorem srtTo_zero (l : List (List UInt8)) : srtTo l 0 := fun j _ h => by omega
theorem srtTo_succ {l : List (List UInt8)} {i : Nat} (h : srtTo l i) (hi : i < l.length) (h1 : rightB l[i] = true) (h2 : 0 < i → lt (l[i - 1]'(by omega)) l[i] = true) : srtTo l (i + 1) := by
  intro j hj hji
  by_cases e : j = i
  · subst e; exact ⟨h1, h2⟩
  · exact h j hj (by omega)
theorem srtTo_not {l : List (List UInt8)} {i : Nat} (hi : i < l.length) (h : ¬ (rightB l[i] = true ∧ (0 < i → lt (l[i - 1]'(by omega)) l[i] = true))) : sortedB l = false := by
  cases hs : sortedB l with
  | false => rfl
  | true => exact absurd ((sorted_at l).1 hs i hi) h
def smA (l : List (List UInt8)) : Prop := (∀ x ∈ l, sm x) ∧ l.length ≤ 268435456
set_option maxHeartbeats 8000000 in
theorem f22 (v : SV) (l : List (List UInt8)) (hl : smA l) (hv : rdS v l) (st : List Ob) : swpF O12 sf29 [v] st (fun r st' => r = .bool (sortedB l) ∧ st' = st) := by
  obtain ⟨q1, q2, q3, q4, q5⟩ := rdS_facts hv
  obtain ⟨hx, hlen⟩ := hl
  simp (maxSteps := 2000000) (disch := first | omega | (simp only [List.length_append, List.length_cons, List.length_nil, List.length_map] <;> omega)) only [sf29, q1, q5, flg_bool, swp_seq, swp_reg, swp_block, seqK_n, evK_some, appK_eq, srun_nil, srun_cons, swpF_eq, sk_mv, sk_give, sk_lenL, get_mk, raw_slot, raw_lit, put_some, wb_nil, ev_mv, ev_give, ro_int, ro_bool, List.map_cons, List.map_nil, List.getD_cons_zero, List.set_cons_zero, List.set_cons_succ, List.length_cons, List.length_nil, List.replicate_succ, List.replicate_zero, List.cons_append, List.nil_append, Nat.reduceSub, Bool.false_eq_true, ↓reduceIte, Nat.zero_add]
  refine swp_lp (fun S => ∃ (i : Nat), i ≤ l.length ∧ srtTo l i ∧
      S = ⟨[v, .undef, .bool false, .undef, .undef, v, .int .i64 l.length, .int .i64 i] ++ List.replicate 21 .undef, st⟩)
      (fun S => match S.get 7 with | .int _ k => ((l.length : Int) - k).toNat | _ => 0)
      ⟨[v, .undef, .bool false, .undef, .undef, v, .int .i64 l.length, .int .i64 0] ++ List.replicate 21 .undef, st⟩ ?_ ⟨0, Nat.zero_le _, srtTo_zero l, rfl⟩ ?_
  · refine Forget.of ?_
    repeat first | exact fg_e | refine fg_d ?_ | refine fg_k rfl ?_
  rintro S ⟨i, hi, hall, rfl⟩
  by_cases him : i = l.length
  · have hd : decide ((i : Int) < (l.length : Int)) = false := by rw [decide_eq_false_iff_not]; omega
    rw [srtTo_all.2 (him ▸ hall)]
    simp (maxSteps := 2000000) (disch := first | omega | (simp only [List.length_append, List.length_cons, List.length_nil, List.length_map] <;> omega)) only [hd, lpK_e, flg_bool, swp_seq, swp_reg, swp_ret, swp_exit, swp_cond, seqK_n, seqK_e, blkK_e, condK_f, evK_some, appK_eq, srun_nil, srun_cons, fin_ret, sk_give, sk_bin, get_mk, raw_slot, raw_lit, put_some, wb_nil, ev_give, bin_lss, ro_bool, List.map_cons, List.map_nil, List.getD_cons_zero, List.getD_cons_succ, List.set_cons_zero, List.set_cons_succ, List.replicate_succ, List.replicate_zero, List.cons_append, List.nil_append, true_and, Bool.false_eq_true, ↓reduceIte]
    first | exact ⟨_, .same⟩ | exact ⟨_, .same, rfl⟩ | exact ⟨_, .same, rfl, rfl⟩
  have hd : decide ((i : Int) < (l.length : Int)) = true := by rw [decide_eq_true_eq]; omega
  have hil : i < l.length := by omega
  have hat := ssv_at l i l[i] (List.getElem?_eq_getElem hil)
  have hsl := ssv_len l
  have fin : ((l.length : Int) - ((i + 1 : Nat) : Int)).toNat < ((l.length : Int) - (i : Int)).toNat := by omega
  have k16 : O12 35 [.str l[i]] st (.bool (rightB l[i])) st := (by repeat first | exact Or.inr ⟨rfl, rfl, _, hx _ (List.getElem_mem hil), rfl, rfl⟩ | refine Or.inl ?_)
  have hvv := rdS_at hv hil
  subst hvv
  simp (maxSteps := 2000000) (disch := first | omega | (simp only [List.length_append, List.length_cons, List.length_nil, List.length_map] <;> omega)) only [hd, hat, Int.toNat_natCast, flg_str, exc_int, exc_str, sk_idxB, idxB_ro, swp_seq, swp_reg, swp_skip, swp_block, swp_cond, seqK_n, condK_t, evK_some, appK_eq, srun_nil, srun_cons, stepK_call, sk_mv, sk_take, sk_give, sk_bin, sk_load, get_mk, raw_slot, put_some, wb_nil, ev_mv, ev_take, ev_give, bin_lss, ev_loadE, ro_int, ro_str, got_int, got_str, pubs, pubsFrom, List.map_cons, List.map_nil, List.getD_cons_zero, List.getD_cons_succ, List.set_cons_zero, List.set_cons_succ, List.replicate_succ, List.replicate_zero, List.cons_append, List.nil_append, Bool.false_eq_true, Option.map_some, ↓reduceIte, Nat.mul_one]
  refine callK_intro k16 ?_
  cases hn : rightB l[i] with
  | false =>
    rw [srtTo_not hil (by rw [hn]; simp)]
    simp (maxSteps := 2000000) (disch := first | omega | (simp only [List.length_append, List.length_cons, List.length_nil, List.length_map] <;> omega)) only [lpK_r, flg_bool, grd_s, swp_seq, swp_reg, swp_ret, swp_cond, seqK_n, seqK_r, blkK_r, condK_t, evK_some, appK_eq, appC_eq, grd_t, srun_nil, srun_cons, stepK_grd, fin_ret, sk_mv, sk_give, sk_pick, sk_un, get_mk, raw_slot, raw_lit, put_some, wb_nil, ev_mv, ev_give, ev_pick, ev_not, ro_bool, List.map_cons, List.map_nil, List.getD_cons_zero, List.getD_cons_succ, List.set_cons_zero, List.set_cons_succ, true_and, Bool.false_eq_true, ↓reduceIte, reduceCtorEq, Bool.not_false]
    first | exact ⟨_, .same⟩ | exact ⟨_, .same, rfl⟩ | exact ⟨_, .same, rfl, rfl⟩
  | true =>
    by_cases h0 : i = 0
    · have d0 : decide ((0 : Int) < (i : Int)) = false := by rw [decide_eq_false_iff_not]; omega
      simp (maxSteps := 2000000) (disch := first | omega | (simp only [List.length_append, List.length_cons, List.length_nil, List.length_map] <;> omega)) only [d0, lpK_n, exc_bool, exc_int, swp_reg, swp_skip, swp_cond, seqK_n, blkK_n, condK_f, evK_some, appK_eq, appC_eq, grd_t, srun_nil, srun_cons, stepK_grd, sk_mv, sk_take, sk_pick, sk_bin, sk_un, get_mk, raw_slot, raw_lit, put_some, wb_nil, ev_mv, ev_take, ev_pick, ev_not, bin_add, bin_gtr, ro_int, ro_bool, got_int, got_bool, List.map_cons, List.map_nil, List.getD_cons_zero, List.getD_cons_succ, List.set_cons_zero, List.set_cons_succ, Bool.false_eq_true, ↓reduceIte, Bool.not_true, gt_iff_lt, wrap_i64]
      refine ⟨_, ?_, ⟨i + 1, by omega, srtTo_succ hall hil hn (fun h => by omega), rfl⟩, fin⟩
      refine Forget.of ?_
      repeat first | exact fg_e | refine fg_d ?_ | refine fg_k rfl ?_
    · have d0 : decide ((0 : Int) < (i : Int)) = true := by rw [decide_eq_true_eq]; omega
      have hp : i - 1 < l.length := by omega
      have hat2 := ssv_at l (i - 1) (l[i - 1]'hp) (List.getElem?_eq_getElem hp)
      have ei : (i : Int) - 1 = ((i - 1 : Nat) : Int) := by omega
      cases hlt : lt (l[i - 1]'hp) l[i] with
      | true =>
        simp (maxSteps := 2000000) (disch := first | omega | (simp only [List.length_append, List.length_cons, List.length_nil, List.length_map] <;> omega)) only [d0, ei, hat2, bin_leqS, leq_lt, hlt, lpK_n, Int.toNat_natCast, exc_bool, exc_int, exc_str, exc_ro, sk_idxB, idxB_ro, swp_reg, swp_skip, swp_cond, seqK_n, blkK_n, condK_f, evK_some, appK_eq, appC_eq, grd_t, srun_nil, srun_cons, stepK_grd, sk_mv, sk_take, sk_pick, sk_bin, sk_un, sk_load, get_mk, raw_slot, raw_lit, put_some, wb_nil, ev_mv, ev_take, ev_pick, ev_not, bin_add, bin_sub, bin_gtr, ev_loadE, ro_int, ro_bool, ro_str, got_roo, got_int, got_bool, got_str, List.map_cons, List.map_nil, List.getD_cons_zero, List.getD_cons_succ, List.set_cons_zero, List.set_cons_succ, Bool.false_eq_true, Option.map_some, ↓reduceIte, Nat.mul_one, Bool.not_true, gt_iff_lt, wrap_i64]
        refine ⟨_, ?_, ⟨i + 1, by omega, srtTo_succ hall hil hn (fun _ => hlt), rfl⟩, fin⟩
        refine Forget.of ?_
        repeat first | exact fg_e | refine fg_d ?_ | refine fg_k rfl ?_
      | false =>
        rw [srtTo_not hil (by rintro ⟨_, h⟩; rw [h (by omega)] at hlt; cases hlt)]
        simp (maxSteps := 2000000) (disch := first | omega | (simp only [List.length_append, List.length_cons, List.length_nil, List.length_map] <;> omega)) only [d0, ei, hat2, bin_leqS, leq_lt, hlt, lpK_r, Int.toNat_natCast, flg_bool, exc_bool, exc_int, exc_str, exc_ro, sk_idxB, idxB_ro, swp_seq, swp_reg, swp_ret, swp_cond, seqK_n, seqK_r, blkK_r, condK_t, evK_some, appK_eq, appC_eq, grd_t, srun_nil, srun_cons, stepK_grd, fin_ret, sk_mv, sk_take, sk_give, sk_pick, sk_bin, sk_un, sk_load, get_mk, raw_slot, raw_lit, put_some, wb_nil, ev_mv, ev_take, ev_give, ev_pick, ev_not, bin_sub, bin_gtr, ev_loadE, ro_bool, ro_str, got_roo, got_int, got_bool, got_str, List.map_cons, List.map_nil, List.getD_cons_zero, List.getD_cons_succ, List.set_cons_zero, List.set_cons_succ, true_and, Bool.false_eq_true, Option.map_some, ↓reduceIte, Nat.mul_one, Bool.not_true, Bool.not_false, gt_iff_lt, wrap_i64]
        first | exact ⟨_, .same⟩ | exact ⟨_, .same, rfl⟩ | exact ⟨_, .same, rfl, rfl⟩
def KSorted : List SV → SV → Prop := fun args r => ∃ v l, smA l ∧ rdS v l ∧ args = [v] ∧ r = .bool (sortedB l)
def O13 : Orc := O12.add 29 (FnC KSorted)
theorem s13 : Sound Tryd.prog O13 := s12.addP c29 (by kernel_rfl) (by
  rintro args r ⟨v, l, hl, hv, rfl, rfl⟩
  exact ⟨by simp [sf29], fun st => f22 v l hl hv st⟩)

/-! The document's. -/
set_option maxHeartbeats 8000000 in
theorem f15 (O : Orc) (s : List UInt8) (hs : sm s) (st : List Ob) : swpF O sf55 [.str s] st (fun r st' => r = .bool (nameB s) ∧ st' = st) := by
  unfold sm at hs
  have x1 : (s != [46]) = !(s == [46]) := rfl
  have x2 : (s != [46, 46]) = !(s == [46, 46]) := rfl
  by_cases h1 : 1 ≤ s.length
  case neg =>
    have d1 : decide ((s.length : Int) < 1) = true := by rw [decide_eq_true_eq]; omega
    have d2 : decide (1 ≤ s.length) = false := by simpa using h1
    simp (maxSteps := 2000000) (disch := first | omega | (simp only [List.length_append, List.length_cons, List.length_nil, List.length_map] <;> omega)) only [sf55, d1, flg_bool, swp_seq, swp_reg, swp_ret, swp_cond, seqK_n, seqK_r, condK_t, evK_some, appK_eq, grd_t, srun_nil, srun_cons, stepK_grd, fin_ret, swpF_eq, sk_mv, sk_give, sk_pick, sk_bin, sk_lenS, get_mk, raw_slot, raw_lit, put_some, wb_nil, ev_mv, ev_give, ev_pick, ev_lenS, bin_lss, ro_bool, ro_str, List.map_cons, List.map_nil, List.getD_cons_zero, List.getD_cons_succ, List.set_cons_zero, List.set_cons_succ, List.length_cons, List.length_nil, List.replicate_succ, List.replicate_zero, List.cons_append, List.nil_append, Nat.reduceSub, Bool.false_eq_true, ↓reduceIte, Nat.zero_add, reduceCtorEq]
    exact ⟨_, .same, by rw [nameB, d2]; simp, rfl⟩
  have d1 : decide ((s.length : Int) < 1) = false := by rw [decide_eq_false_iff_not]; omega
  have d2 : decide (1 ≤ s.length) = true := by simpa using h1
  by_cases h2 : s.length ≤ 12
  case neg =>
    have d3 : decide ((12 : Int) < (s.length : Int)) = true := by rw [decide_eq_true_eq]; omega
    have d4 : decide (s.length ≤ 12) = false := by simpa using h2
    simp (maxSteps := 2000000) (disch := first | omega | (simp only [List.length_append, List.length_cons, List.length_nil, List.length_map] <;> omega)) only [sf55, d1, d3, flg_bool, exc_str, swp_seq, swp_reg, swp_ret, swp_cond, seqK_n, seqK_r, condK_t, evK_some, appK_eq, grd_t, srun_nil, srun_cons, stepK_grd, fin_ret, swpF_eq, sk_mv, sk_take, sk_give, sk_pick, sk_bin, sk_lenS, get_mk, raw_slot, raw_lit, put_some, wb_nil, ev_mv, ev_take, ev_give, ev_pick, ev_lenS, bin_lss, bin_gtr, ro_bool, ro_str, got_str, List.map_cons, List.map_nil, List.getD_cons_zero, List.getD_cons_succ, List.set_cons_zero, List.set_cons_succ, List.length_cons, List.length_nil, List.replicate_succ, List.replicate_zero, List.cons_append, List.nil_append, Nat.reduceSub, Bool.false_eq_true, ↓reduceIte, Nat.zero_add, reduceCtorEq, gt_iff_lt]
    exact ⟨_, .same, by rw [nameB, d4]; simp, rfl⟩
  have d3 : decide ((12 : Int) < (s.length : Int)) = false := by rw [decide_eq_false_iff_not]; omega
  have d4 : decide (s.length ≤ 12) = true := by simpa using h2
  cases hx : (s == [46]) with
  | true =>
    simp (maxSteps := 2000000) (disch := first | omega | (simp only [List.length_append, List.length_cons, List.length_nil, List.length_map] <;> omega)) only [sf55, d1, d3, hx, flg_bool, exc_str, swp_seq, swp_reg, swp_ret, swp_cond, seqK_n, seqK_r, condK_t, evK_some, appK_eq, grd_t, srun_nil, srun_cons, stepK_grd, fin_ret, swpF_eq, sk_mv, sk_take, sk_give, sk_pick, sk_bin, sk_lenS, get_mk, raw_slot, raw_lit, put_some, wb_nil, ev_mv, ev_take, ev_give, ev_pick, ev_lenS, bin_lss, bin_gtr, bin_eqlS, ro_bool, ro_str, got_str, List.map_cons, List.map_nil, List.getD_cons_zero, List.getD_cons_succ, List.set_cons_zero, List.set_cons_succ, List.length_cons, List.length_nil, List.replicate_succ, List.replicate_zero, List.cons_append, List.nil_append, Nat.reduceSub, Bool.false_eq_true, ↓reduceIte, Nat.zero_add, reduceCtorEq, gt_iff_lt]
    exact ⟨_, .same, by rw [nameB, x1, hx]; simp, rfl⟩
  | false =>
  cases hy : (s == [46, 46]) with
  | true =>
    simp (maxSteps := 2000000) (disch := first | omega | (simp only [List.length_append, List.length_cons, List.length_nil, List.length_map] <;> omega)) only [sf55, d1, d3, hx, hy, flg_bool, exc_str, swp_seq, swp_reg, swp_ret, swp_cond, seqK_n, seqK_r, condK_t, evK_some, appK_eq, grd_t, srun_nil, srun_cons, stepK_grd, fin_ret, swpF_eq, sk_mv, sk_take, sk_give, sk_pick, sk_bin, sk_lenS, get_mk, raw_slot, raw_lit, put_some, wb_nil, ev_mv, ev_take, ev_give, ev_pick, ev_lenS, bin_lss, bin_gtr, bin_eqlS, ro_bool, ro_str, got_str, List.map_cons, List.map_nil, List.getD_cons_zero, List.getD_cons_succ, List.set_cons_zero, List.set_cons_succ, List.length_cons, List.length_nil, List.replicate_succ, List.replicate_zero, List.cons_append, List.nil_append, Nat.reduceSub, Bool.false_eq_true, ↓reduceIte, Nat.zero_add, gt_iff_lt]
    exact ⟨_, .same, by rw [nameB, x2, hy]; simp, rfl⟩
  | false =>
  have hnb : nameB s = s.all okB := by rw [nameB, d2, d4, x1, x2, hx, hy]; rfl
  simp (maxSteps := 2000000) (disch := first | omega | (simp only [List.length_append, List.length_cons, List.length_nil, List.length_map] <;> omega)) only [sf55, d1, d3, hx, hy, flg_bool, exc_int, exc_str, swp_seq, swp_reg, swp_skip, swp_block, swp_cond, seqK_n, condK_f, evK_some, appK_eq, grd_t, srun_nil, srun_cons, stepK_grd, swpF_eq, sk_mv, sk_take, sk_give, sk_pick, sk_bin, sk_lenS, get_mk, raw_slot, raw_lit, put_some, wb_nil, ev_mv, ev_take, ev_give, ev_pick, ev_lenS, bin_lss, bin_gtr, bin_eqlS, ro_bool, ro_str, got_int, got_str, List.map_cons, List.map_nil, List.getD_cons_zero, List.getD_cons_succ, List.set_cons_zero, List.set_cons_succ, List.length_cons, List.length_nil, List.replicate_succ, List.replicate_zero, List.cons_append, List.nil_append, Nat.reduceSub, Bool.false_eq_true, ↓reduceIte, Nat.zero_add, gt_iff_lt]
  refine swp_lp (fun S => ∃ (i : Nat), i ≤ s.length ∧ (s.take i).all okB = true ∧
      S = ⟨[.str s, .undef, .bool false, .int .i64 i] ++ List.replicate 49 .undef, st⟩)
      (fun S => match S.get 3 with | .int _ k => ((s.length : Int) - k).toNat | _ => 0)
      ⟨[.str s, .undef, .bool false, .int .i64 0] ++ List.replicate 49 .undef, st⟩ ?_ ⟨0, Nat.zero_le _, rfl, rfl⟩ ?_
  · refine Forget.of ?_
    repeat first | exact fg_e | refine fg_d ?_ | refine fg_k rfl ?_
  rintro S ⟨i, hi, hall, rfl⟩
  by_cases him : i = s.length
  · have hd : decide ((i : Int) < (s.length : Int)) = false := by rw [decide_eq_false_iff_not]; omega
    rw [him, List.take_length] at hall
    rw [hnb, hall]
    simp (maxSteps := 2000000) (disch := first | omega | (simp only [List.length_append, List.length_cons, List.length_nil, List.length_map] <;> omega)) only [hd, lpK_e, flg_bool, swp_seq, swp_reg, swp_ret, swp_exit, swp_cond, seqK_n, seqK_e, blkK_e, condK_f, evK_some, appK_eq, srun_nil, srun_cons, fin_ret, sk_mv, sk_give, sk_bin, sk_lenS, get_mk, raw_slot, raw_lit, put_some, wb_nil, ev_mv, ev_give, ev_lenS, bin_lss, ro_int, ro_bool, ro_str, List.map_cons, List.map_nil, List.getD_cons_zero, List.getD_cons_succ, List.set_cons_zero, List.set_cons_succ, List.replicate_succ, List.replicate_zero, List.cons_append, List.nil_append, true_and, Bool.false_eq_true, ↓reduceIte]
    first | exact ⟨_, .same⟩ | exact ⟨_, .same, rfl⟩ | exact ⟨_, .same, rfl, rfl⟩
  have hd : decide ((i : Int) < (s.length : Int)) = true := by rw [decide_eq_true_eq]; omega
  have hil : i < s.length := by omega
  have hat : s[i]? = some s[i] := List.getElem?_eq_getElem hil
  have hat2 : ∀ st, ev st .idxS [.str s, .int .i64 (i : Int)] = some (.int .u8 s[i].toNat, [], st) := fun st => by
    rw [ev_idxS (by omega), Int.toNat_natCast, hat]; rfl
  have hok : okB s[i] = (decide ((97 : Int) ≤ (s[i].toNat : Int)) && decide ((s[i].toNat : Int) ≤ 122) || decide ((48 : Int) ≤ (s[i].toNat : Int)) && decide ((s[i].toNat : Int) ≤ 57) || ((s[i].toNat : Int) == 46) || ((s[i].toNat : Int) == 45)) := by
    have e1 : decide ((97 : Int) ≤ (s[i].toNat : Int)) = decide (97 ≤ s[i].toNat) := by rw [decide_eq_decide]; omega
    have e2 : decide ((s[i].toNat : Int) ≤ 122) = decide (s[i].toNat ≤ 122) := by rw [decide_eq_decide]; omega
    have e3 : decide ((48 : Int) ≤ (s[i].toNat : Int)) = decide (48 ≤ s[i].toNat) := by rw [decide_eq_decide]; omega
    have e4 : decide ((s[i].toNat : Int) ≤ 57) = decide (s[i].toNat ≤ 57) := by rw [decide_eq_decide]; omega
    have e5 : ((s[i].toNat : Int) == 46) = (s[i] == 46) := by
      rw [Bool.eq_iff_iff, beq_iff_eq, beq_iff_eq, ← UInt8.toNat_inj]
      show (s[i].toNat : Int) = 46 ↔ s[i].toNat = 46
      omega
    have e6 : ((s[i].toNat : Int) == 45) = (s[i] == 45) := by
      rw [Bool.eq_iff_iff, beq_iff_eq, beq_iff_eq, ← UInt8.toNat_inj]
      show (s[i].toNat : Int) = 45 ↔ s[i].toNat = 45
      omega
    rw [e1, e2, e3, e4, e5, e6, okB]
  have hbad : okB s[i] = false → s.all okB = false := fun h => by
    rw [List.all_eq_false]
    exact ⟨s[i], List.getElem_mem hil, by rw [h]; simp⟩
  have hgood : okB s[i] = true → (s.take (i + 1)).all okB = true := fun h => by rw [all_take_succ hil, hall, h]; rfl
  have fin : ((s.length : Int) - ((i + 1 : Nat) : Int)).toNat < ((s.length : Int) - (i : Int)).toNat := by omega
  obtain ⟨b1, hb1⟩ : ∃ b, decide ((97 : Int) ≤ (s[i].toNat : Int)) = b := ⟨_, rfl⟩
  obtain ⟨b2, hb2⟩ : ∃ b, decide ((s[i].toNat : Int) ≤ 122) = b := ⟨_, rfl⟩
  obtain ⟨b3, hb3⟩ : ∃ b, decide ((48 : Int) ≤ (s[i].toNat : Int)) = b := ⟨_, rfl⟩
  obtain ⟨b4, hb4⟩ : ∃ b, decide ((s[i].toNat : Int) ≤ 57) = b := ⟨_, rfl⟩
  obtain ⟨b5, hb5⟩ : ∃ b, ((s[i].toNat : Int) == 46) = b := ⟨_, rfl⟩
  obtain ⟨b6, hb6⟩ : ∃ b, ((s[i].toNat : Int) == 45) = b := ⟨_, rfl⟩
  rw [hb1, hb2, hb3, hb4, hb5, hb6] at hok
  rw [hnb]
  cases b1 <;> cases b2 <;> cases b3 <;> cases b4
  all_goals
    cases b5 <;> cases b6
    all_goals
      simp only [Bool.and_true, Bool.and_false, Bool.or_true, Bool.or_false] at hok
      simp (maxSteps := 2000000) (disch := first | omega | (simp only [List.length_append, List.length_cons, List.length_nil, List.length_map] <;> omega)) only [hd, hat2, hb1, hb2, hb3, hb4, hb5, hb6, lpK_n, lpK_r, flg_bool, flg_int, exc_bool, exc_int, grd_s, swp_seq, swp_reg, swp_skip, swp_ret, swp_block, swp_cond, seqK_n, seqK_r, blkK_n, blkK_r, condK_t, condK_f, evK_some, appK_eq, grd_t, srun_nil, srun_cons, stepK_grd, fin_ret, sk_mv, sk_take, sk_give, sk_pick, sk_bin, sk_un, sk_idxS, sk_lenS, get_mk, raw_slot, raw_lit, put_some, wb_nil, ev_mv, ev_take, ev_give, ev_pick, ev_not, ev_lenS, bin_add, bin_eql, bin_lss, bin_leq, bin_geq, ro_int, ro_bool, ro_str, got_int, got_bool, List.map_cons, List.map_nil, List.getD_cons_zero, List.getD_cons_succ, List.set_cons_zero, List.set_cons_succ, List.replicate_succ, List.replicate_zero, List.cons_append, List.nil_append, Bool.false_eq_true, ↓reduceIte, reduceCtorEq, Bool.not_true, Bool.not_false, ge_iff_le, wrap_i64]
      first
        | (rw [hbad hok]
           first | exact ⟨_, .same⟩ | exact ⟨_, .same, rfl⟩ | exact ⟨_, .same, rfl, rfl⟩)
        | (refine ⟨_, ?_, ⟨i + 1, by omega, hgood hok, rfl⟩, fin⟩
           refine Forget.of ?_
           repeat first | exact fg_e | refine fg_d ?_ | refine fg_k rfl ?_)
def O14 : Orc := O13.add 55 (FnC KName)
theorem s14 : Sound Tryd.prog O14 := s13.addP c55 (by kernel_rfl) (by
  rintro args r ⟨s, hs, rfl, rfl⟩
  exact ⟨by simp [sf55], fun st => f15 _ s hs st⟩)
end Go.Sh.F
namespace Go.Sh.F
open Go.PathLaw Go.Proofs
set_option maxHeartbeats 8000000 in
theorem f28 (O : Orc) (s : List UInt8) (hs : sm s) (st : List Ob) : swpF O sf54 [.str s] st (fun r st' => r = .sl (ssv (spl s)) (spl s).length (.excl 1) ∧ st' = st) := by
  unfold sm at hs
  have hll := spl_length_le s
  simp (maxSteps := 2000000) (disch := first | omega | (simp only [List.length_append, List.length_cons, List.length_nil, List.length_map] <;> omega)) only [sf54, flg_nilS, exc_int, exc_nilS, swp_seq, swp_reg, swp_block, seqK_n, evK_some, appK_eq, srun_nil, srun_cons, swpF_eq, sk_take, sk_give, raw_lit, put_some, wb_nil, ev_take, ev_give, ro_nilS, got_int, got_nilS, List.map_cons, List.map_nil, List.set_cons_zero, List.set_cons_succ, List.length_cons, List.length_nil, List.replicate_succ, List.replicate_zero, List.cons_append, List.nil_append, Nat.reduceSub, Bool.false_eq_true, ↓reduceIte, Nat.zero_add]
  refine swp_lp (fun S => ∃ (i from_ : Nat) (pre : List (List UInt8)), pre.length ≤ i ∧ ((i ≤ s.length ∧ from_ ≤ i ∧ (47 : UInt8) ∉ (s.take i).drop from_ ∧ spl s = pre ++ spl (s.drop from_)) ∨ (i = s.length + 1 ∧ pre = spl s)) ∧
      S = ⟨[.str s, .undef, .nilS, rowV pre, .int .i64 from_, .int .i64 i] ++ List.replicate 26 .undef, st⟩)
      (fun S => match S.get 5 with | .int _ k => ((s.length : Int) + 1 - k).toNat | _ => 0)
      ⟨[.str s, .undef, .nilS, rowV [], .int .i64 0, .int .i64 0] ++ List.replicate 26 .undef, st⟩ ?_ ⟨0, 0, [], Nat.zero_le _, .inl ⟨Nat.zero_le _, Nat.le_refl _, by simp, rfl⟩, rfl⟩ ?_
  · refine Forget.of ?_
    repeat first | exact fg_e | refine fg_d ?_ | refine fg_k rfl ?_
  rintro S ⟨i, from_, pre, hpl, hcase, rfl⟩
  rcases hcase with ⟨hi, hfi, hno, hspl⟩ | ⟨rfl, rfl⟩
  case inr =>
    have hd : decide (((s.length + 1 : Nat) : Int) ≤ (s.length : Int)) = false := by rw [decide_eq_false_iff_not]; omega
    rw [rowV_ne (spl_ne s)]
    simp (maxSteps := 2000000) (disch := first | omega | (simp only [List.length_append, List.length_cons, List.length_nil, List.length_map] <;> omega)) only [hd, lpK_e, flg_excl, swp_seq, swp_reg, swp_ret, swp_exit, swp_cond, seqK_n, seqK_e, blkK_e, condK_f, evK_some, appK_eq, srun_nil, srun_cons, fin_ret, sk_mv, sk_give, sk_bin, sk_lenS, get_mk, raw_slot, put_some, wb_nil, wb_cons, ev_mv, ev_give, ev_lenS, bin_leq, ro_int, ro_str, ro_excl, List.map_cons, List.map_nil, List.getD_cons_zero, List.getD_cons_succ, List.set_cons_zero, List.set_cons_succ, List.getElem?_cons_zero, List.replicate_succ, List.replicate_zero, List.cons_append, List.nil_append, true_and, ↓reduceIte]
    first | exact ⟨_, .same⟩ | exact ⟨_, .same, rfl⟩ | exact ⟨_, .same, rfl, rfl⟩
  have hd : decide ((i : Int) ≤ (s.length : Int)) = true := by rw [decide_eq_true_eq]; omega
  have fin : ((s.length : Int) + 1 - ((i + 1 : Nat) : Int)).toNat < ((s.length : Int) + 1 - (i : Int)).toNat := by omega
  have hsc : ∀ st, ev st (.slcS true true) [.str s, .int .i64 (from_ : Int), .int .i64 (i : Int)] = some (.str ((s.take i).drop from_), [], st) := fun st => by
    rw [slcS_both (by omega) (by omega) (by omega)]; rfl
  have hdrop : s.drop from_ = (s.take i).drop from_ ++ s.drop i := by
    conv => lhs; rw [← List.take_append_drop i s]
    rw [List.drop_append_of_le_length (by rw [List.length_take]; omega)]
  generalize hcur : (s.take i).drop from_ = cur at *
  have happ : ∀ st, ev st (.app 1 16 [.str []]) [rowV pre, .sl [.str cur] 1 (.excl 1)] = some (rowV (pre ++ [cur]), if pre = [] then [] else [(0, .undef)], st) := by
    intro st
    by_cases hp : pre = []
    · subst hp
      rw [if_pos rfl, rowV_nil, app_nil (by simp) (by omega) (by omega) (by omega)]; rfl
    · rw [if_neg hp, rowV_ne hp, app_excl (by rw [ssv_len]; omega) (by simp) (by omega) (by omega), rowV_app]
  have hflg : flg (rowV (pre ++ [cur])) = true ∧ ro (rowV (pre ++ [cur])) = .undef ∧ exc (rowV (pre ++ [cur])) = true ∧ pub (rowV (pre ++ [cur])) = .sl (ssv pre ++ [.str cur]) (pre.length + 1) (.own 1) := by
    rw [rowV_app]; exact ⟨rfl, rfl, rfl, rfl⟩
  by_cases him : i = s.length
  · have d1 : ((i : Int) == (s.length : Int)) = true := by simp [him]
    have hfin : pre ++ [cur] = spl s := by
      rw [hspl, hdrop, him, List.drop_length, List.append_nil, spl_plain cur hno]
    by_cases hp : pre = []
    · subst hp
      rw [rowV_nil]
      rw [rowV_nil, if_pos rfl] at happ
      simp only [List.nil_append] at happ hflg
      simp (maxSteps := 2000000) (disch := first | omega | (simp only [List.length_append, List.length_cons, List.length_nil, List.length_map] <;> omega)) only [hd, d1, hsc, happ, hflg.1, hflg.2.1, lpK_n, flg_int, exc_str, swp_seq, swp_reg, swp_skip, swp_block, swp_cond, seqK_n, blkK_n, condK_t, evK_some, appK_eq, grd_t, srun_nil, srun_cons, stepK_grd, sk_mv, sk_give, sk_pick, sk_bin, sk_lenS, sk_slcS, sk_bsl, sk_app, get_mk, raw_slot, raw_lit, put_some, wb_nil, wb_cons, ev_mv, ev_give, ev_pick, ev_lenS, bin_add, bin_eql, bin_leq, ev_bsl, ro_int, ro_bool, ro_str, ro_nilS, got_str, pubs, pubsFrom, List.map_cons, List.map_nil, List.getD_cons_zero, List.getD_cons_succ, List.set_cons_zero, List.set_cons_succ, List.getElem?_cons_zero, List.length_cons, List.length_nil, List.replicate_succ, List.replicate_zero, List.cons_append, List.nil_append, Nat.reduceLT, and_true, Bool.false_eq_true, Option.map_some, ↓reduceIte, List.all_cons, List.all_nil, Bool.and_self, List.zip_cons_cons, List.zip_nil_right, rep, fillV, wrCells, cellsV, isCell, List.flatten_cons, List.flatten_nil, List.append_nil, decide_true, Nat.mul_one, Nat.zero_add, reduceCtorEq, wrap_i64, Nat.le_refl]
      refine ⟨⟨[.str s, .undef, .nilS, rowV [cur], .int .i64 ((i + 1 : Nat) : Int), .int .i64 ((i + 1 : Nat) : Int)] ++ List.replicate 26 .undef, st⟩, ?_, ⟨i + 1, i + 1, [cur], by simp, .inr ⟨by omega, hfin⟩, rfl⟩, by exact fin⟩
      refine Forget.of ?_
      repeat first | exact fg_e | refine fg_d ?_ | refine fg_k rfl ?_
    · rw [rowV_ne hp]
      rw [rowV_ne hp, if_neg hp] at happ
      simp (maxSteps := 2000000) (disch := first | omega | (simp only [List.length_append, List.length_cons, List.length_nil, List.length_map] <;> omega)) only [hd, d1, hsc, happ, hflg.1, hflg.2.1, lpK_n, flg_int, exc_str, swp_seq, swp_reg, swp_skip, swp_block, swp_cond, seqK_n, blkK_n, condK_t, evK_some, appK_eq, grd_t, srun_nil, srun_cons, stepK_grd, sk_mv, sk_give, sk_pick, sk_bin, sk_lenS, sk_slcS, sk_bsl, sk_app, get_mk, raw_slot, raw_lit, put_some, wb_nil, wb_cons, ev_mv, ev_give, ev_pick, ev_lenS, bin_add, bin_eql, bin_leq, ev_bsl, ro_int, ro_bool, ro_str, ro_excl, got_str, pubs, pubsFrom, List.map_cons, List.map_nil, List.getD_cons_zero, List.getD_cons_succ, List.set_cons_zero, List.set_cons_succ, List.getElem?_cons_zero, List.length_cons, List.length_nil, List.replicate_succ, List.replicate_zero, List.cons_append, List.nil_append, Nat.reduceLT, and_true, Bool.false_eq_true, Option.map_some, ↓reduceIte, List.all_cons, List.all_nil, Bool.and_self, List.zip_cons_cons, List.zip_nil_right, rep, fillV, wrCells, cellsV, isCell, List.flatten_cons, List.flatten_nil, List.append_nil, decide_true, Nat.mul_one, Nat.zero_add, reduceCtorEq, wrap_i64, Nat.le_refl]
      refine ⟨⟨[.str s, .undef, .nilS, rowV (pre ++ [cur]), .int .i64 ((i + 1 : Nat) : Int), .int .i64 ((i + 1 : Nat) : Int)] ++ List.replicate 26 .undef, st⟩, ?_, ⟨i + 1, i + 1, pre ++ [cur], by simp; omega, .inr ⟨by omega, hfin⟩, rfl⟩, by exact fin⟩
      refine Forget.of ?_
      repeat first | exact fg_e | refine fg_d ?_ | refine fg_k rfl ?_
  have d1 : ((i : Int) == (s.length : Int)) = false := by simp; omega
  have hil : i < s.length := by omega
  have hat2 : ∀ st, ev st .idxS [.str s, .int .i64 (i : Int)] = some (.int .u8 s[i].toNat, [], st) := fun st => by
    rw [ev_idxS (by omega), Int.toNat_natCast, List.getElem?_eq_getElem hil]; rfl
  have hdi : s.drop i = s[i] :: s.drop (i + 1) := List.drop_eq_getElem_cons hil
  by_cases h47 : s[i] = 47
  · have d2 : ((s[i].toNat : Int) == 47) = true := by rw [h47]; rfl
    have hnew : spl s = (pre ++ [cur]) ++ spl (s.drop (i + 1)) := by
      rw [hspl, hdrop, hdi, h47, spl_app cur _ hno]; simp
    have hempty : (47 : UInt8) ∉ (s.take (i + 1)).drop (i + 1) := by
      rw [List.drop_of_length_le (by rw [List.length_take]; omega)]; simp
    by_cases hp : pre = []
    · subst hp
      rw [rowV_nil]
      rw [rowV_nil, if_pos rfl] at happ
      simp only [List.nil_append] at happ hflg
      simp (maxSteps := 2000000) (disch := first | omega | (simp only [List.length_append, List.length_cons, List.length_nil, List.length_map] <;> omega)) only [hd, d1, d2, hat2, hsc, happ, hflg.1, hflg.2.1, lpK_n, flg_int, exc_int, exc_str, swp_seq, swp_reg, swp_skip, swp_block, swp_cond, seqK_n, blkK_n, condK_t, evK_some, appK_eq, grd_t, srun_nil, srun_cons, stepK_grd, sk_mv, sk_take, sk_give, sk_pick, sk_bin, sk_idxS, sk_lenS, sk_slcS, sk_bsl, sk_app, get_mk, raw_slot, raw_lit, put_some, wb_nil, wb_cons, ev_mv, ev_take, ev_give, ev_pick, ev_lenS, bin_add, bin_eql, bin_leq, ev_bsl, ro_int, ro_bool, ro_str, ro_nilS, got_int, got_str, pubs, pubsFrom, List.map_cons, List.map_nil, List.getD_cons_zero, List.getD_cons_succ, List.set_cons_zero, List.set_cons_succ, List.getElem?_cons_zero, List.length_cons, List.length_nil, List.replicate_succ, List.replicate_zero, List.cons_append, List.nil_append, Nat.reduceLT, and_true, Bool.false_eq_true, Option.map_some, ↓reduceIte, List.all_cons, List.all_nil, Bool.and_self, List.zip_cons_cons, List.zip_nil_right, rep, fillV, wrCells, cellsV, isCell, List.flatten_cons, List.flatten_nil, List.append_nil, decide_true, Nat.mul_one, Nat.zero_add, wrap_i64, Nat.le_refl]
      refine ⟨⟨[.str s, .undef, .nilS, rowV [cur], .int .i64 ((i + 1 : Nat) : Int), .int .i64 ((i + 1 : Nat) : Int)] ++ List.replicate 26 .undef, st⟩, ?_, ⟨i + 1, i + 1, [cur], by simp, .inl ⟨by omega, Nat.le_refl _, hempty, hnew⟩, rfl⟩, by exact fin⟩
      refine Forget.of ?_
      repeat first | exact fg_e | refine fg_d ?_ | refine fg_k rfl ?_
    · rw [rowV_ne hp]
      rw [rowV_ne hp, if_neg hp] at happ
      simp (maxSteps := 2000000) (disch := first | omega | (simp only [List.length_append, List.length_cons, List.length_nil, List.length_map] <;> omega)) only [hd, d1, d2, hat2, hsc, happ, hflg.1, hflg.2.1, lpK_n, flg_int, exc_int, exc_str, swp_seq, swp_reg, swp_skip, swp_block, swp_cond, seqK_n, blkK_n, condK_t, evK_some, appK_eq, grd_t, srun_nil, srun_cons, stepK_grd, sk_mv, sk_take, sk_give, sk_pick, sk_bin, sk_idxS, sk_lenS, sk_slcS, sk_bsl, sk_app, get_mk, raw_slot, raw_lit, put_some, wb_nil, wb_cons, ev_mv, ev_take, ev_give, ev_pick, ev_lenS, bin_add, bin_eql, bin_leq, ev_bsl, ro_int, ro_bool, ro_str, ro_excl, got_int, got_str, pubs, pubsFrom, List.map_cons, List.map_nil, List.getD_cons_zero, List.getD_cons_succ, List.set_cons_zero, List.set_cons_succ, List.getElem?_cons_zero, List.length_cons, List.length_nil, List.replicate_succ, List.replicate_zero, List.cons_append, List.nil_append, Nat.reduceLT, and_true, Bool.false_eq_true, Option.map_some, ↓reduceIte, List.all_cons, List.all_nil, Bool.and_self, List.zip_cons_cons, List.zip_nil_right, rep, fillV, wrCells, cellsV, isCell, List.flatten_cons, List.flatten_nil, List.append_nil, decide_true, Nat.mul_one, Nat.zero_add, wrap_i64, Nat.le_refl]
      refine ⟨⟨[.str s, .undef, .nilS, rowV (pre ++ [cur]), .int .i64 ((i + 1 : Nat) : Int), .int .i64 ((i + 1 : Nat) : Int)] ++ List.replicate 26 .undef, st⟩, ?_, ⟨i + 1, i + 1, pre ++ [cur], by simp; omega, .inl ⟨by omega, Nat.le_refl _, hempty, hnew⟩, rfl⟩, by exact fin⟩
      refine Forget.of ?_
      repeat first | exact fg_e | refine fg_d ?_ | refine fg_k rfl ?_
  · have d2 : ((s[i].toNat : Int) == 47) = false := by
      rw [beq_eq_false_iff_ne]
      intro h
      refine h47 (UInt8.toNat_inj.1 ?_)
      show s[i].toNat = 47
      omega
    have hno2 : (47 : UInt8) ∉ (s.take (i + 1)).drop from_ := by
      rw [← List.take_append_getElem hil, List.drop_append_of_le_length (by rw [List.length_take]; omega), hcur]
      intro h
      rcases List.mem_append.1 h with h | h
      · exact hno h
      · simp at h; exact h47 h.symm
    simp (maxSteps := 2000000) (disch := first | omega | (simp only [List.length_append, List.length_cons, List.length_nil, List.length_map] <;> omega)) only [hd, d1, d2, hat2, lpK_n, flg_int, exc_int, exc_str, swp_seq, swp_reg, swp_skip, swp_block, swp_cond, seqK_n, blkK_n, condK_t, condK_f, evK_some, appK_eq, grd_t, srun_nil, srun_cons, stepK_grd, sk_mv, sk_take, sk_give, sk_pick, sk_bin, sk_idxS, sk_lenS, get_mk, raw_slot, raw_lit, put_some, wb_nil, ev_mv, ev_take, ev_give, ev_pick, ev_lenS, bin_add, bin_eql, bin_leq, ro_int, ro_bool, ro_str, got_int, got_str, List.map_cons, List.map_nil, List.getD_cons_zero, List.getD_cons_succ, List.set_cons_zero, List.set_cons_succ, List.replicate_succ, List.replicate_zero, List.cons_append, List.nil_append, Bool.false_eq_true, ↓reduceIte, wrap_i64]
    refine ⟨⟨[.str s, .undef, .nilS, rowV pre, .int .i64 from_, .int .i64 ((i + 1 : Nat) : Int)] ++ List.replicate 26 .undef, st⟩, ?_, ⟨i + 1, from_, pre, by omega, .inl ⟨by omega, by omega, hno2, hspl⟩, rfl⟩, by exact fin⟩
    refine Forget.of ?_
    repeat first | exact fg_e | refine fg_d ?_ | refine fg_k rfl ?_
end Go.Sh.F
namespace Go.Sh.F
open Go.PathLaw Go.Proofs
def KCut : List SV → SV → Prop := fun args r => ∃ s : List UInt8, sm s ∧ args = [.str s] ∧ r = .sl (ssv (spl s)) (spl s).length (.excl 1)
def O15 : Orc := O14.add 54 (FnC KCut)
theorem s15 : Sound Tryd.prog O15 := s14.addP c54 (by kernel_rfl) (by
  rintro args r ⟨s, hs, rfl, rfl⟩
  exact ⟨by simp [sf54], fun st => f28 _ s hs st⟩)
set_option maxHeartbeats 8000000 in
theorem f17 (s : List UInt8) (hs : sm s) (st : List Ob) : swpF O15 sf39 [.str s] st (fun r st' => r = .bool (rightB s) ∧ st' = st) := by
  have hll := spl_length_le s
  simp (maxSteps := 2000000) (disch := first | omega | (simp only [List.length_append, List.length_cons, List.length_nil, List.length_map] <;> omega)) only [sf39, flg_bool, exc_str, swp_seq, swp_reg, seqK_n, evK_some, appK_eq, srun_nil, srun_cons, stepK_call, swpF_eq, sk_mv, sk_give, get_mk, raw_slot, raw_lit, put_some, wb_nil, ev_mv, ev_give, ro_bool, ro_str, got_str, pubs, pubsFrom, List.map_cons, List.map_nil, List.getD_cons_zero, List.set_cons_zero, List.set_cons_succ, List.length_cons, List.length_nil, List.replicate_succ, List.replicate_zero, List.cons_append, List.nil_append, Nat.reduceSub, Bool.false_eq_true, ↓reduceIte, Nat.zero_add]
  refine callK_intro ((by repeat first | exact Or.inr ⟨rfl, rfl, s, hs, rfl, rfl⟩ | refine Or.inl ?_)) ?_
  by_cases h4 : (spl s).length ≤ 4
  case neg =>
    have d1 : decide ((4 : Int) < ((spl s).length : Int)) = true := by rw [decide_eq_true_eq]; omega
    have hr : rightB s = false := by rw [rightB, decide_eq_false h4]; rfl
    rw [hr]
    simp (maxSteps := 2000000) (disch := first | omega | (simp only [List.length_append, List.length_cons, List.length_nil, List.length_map] <;> omega)) only [d1, flg_bool, flg_excl, swp_seq, swp_reg, swp_ret, swp_cond, seqK_n, seqK_r, condK_t, evK_some, appK_eq, appC_eq, srun_nil, srun_cons, fin_ret, sk_mv, sk_give, sk_bin, sk_lenL, get_mk, raw_slot, raw_lit, put_some, wb_nil, wb_cons, ev_mv, ev_give, ev_lenL, bin_gtr, ro_bool, ro_excl, List.map_cons, List.map_nil, List.getD_cons_zero, List.getD_cons_succ, List.set_cons_zero, List.set_cons_succ, List.getElem?_cons_zero, true_and, Bool.false_eq_true, ↓reduceIte, gt_iff_lt]
    first | exact ⟨_, .same⟩ | exact ⟨_, .same, rfl⟩ | exact ⟨_, .same, rfl, rfl⟩
  have d1 : decide ((4 : Int) < ((spl s).length : Int)) = false := by rw [decide_eq_false_iff_not]; omega
  have hr : rightB s = (spl s).all nameB := by rw [rightB, decide_eq_true h4, Bool.true_and]
  have hm : ∀ x ∈ spl s, sm x := fun x hx => spl_sm hs hx
  rw [hr]
  generalize spl s = l at *
  have hsl := ssv_len l
  simp (maxSteps := 2000000) (disch := first | omega | (simp only [List.length_append, List.length_cons, List.length_nil, List.length_map] <;> omega)) only [d1, flg_excl, exc_int, swp_seq, swp_reg, swp_skip, swp_block, swp_cond, seqK_n, condK_f, evK_some, appK_eq, appC_eq, srun_nil, srun_cons, sk_mv, sk_take, sk_give, sk_bin, sk_lenL, get_mk, raw_slot, raw_lit, put_some, wb_nil, wb_cons, ev_mv, ev_take, ev_give, ev_lenL, bin_gtr, ro_excl, got_int, List.map_cons, List.map_nil, List.getD_cons_zero, List.getD_cons_succ, List.set_cons_zero, List.set_cons_succ, List.getElem?_cons_zero, Bool.false_eq_true, ↓reduceIte, gt_iff_lt]
  refine swp_lp (fun S => ∃ (i : Nat) (fl : Fl), i ≤ l.length ∧ (fl = .excl 1 ∨ fl = .own 1) ∧ (l.take i).all nameB = true ∧
      S = ⟨[.str s, .undef, .bool false, .sl (ssv l) l.length fl, .int .i64 i] ++ List.replicate 17 .undef, st⟩)
      (fun S => match S.get 4 with | .int _ k => ((l.length : Int) - k).toNat | _ => 0)
      ⟨[.str s, .undef, .bool false, .sl (ssv l) l.length (.excl 1), .int .i64 0] ++ List.replicate 17 .undef, st⟩ ?_ ⟨0, .excl 1, Nat.zero_le _, .inl rfl, rfl, rfl⟩ ?_
  · refine Forget.of ?_
    repeat first | exact fg_e | refine fg_d ?_ | refine fg_k rfl ?_
  rintro S ⟨i, fl, hi, hfl, hall, rfl⟩
  by_cases him : i = l.length
  · have hd : decide ((i : Int) < (l.length : Int)) = false := by rw [decide_eq_false_iff_not]; omega
    rw [him, List.take_length] at hall
    rw [hall]
    rcases hfl with rfl | rfl
    · simp (maxSteps := 2000000) (disch := first | omega | (simp only [List.length_append, List.length_cons, List.length_nil, List.length_map] <;> omega)) only [hd, lpK_e, flg_bool, swp_seq, swp_reg, swp_ret, swp_exit, swp_cond, seqK_n, seqK_e, blkK_e, condK_f, evK_some, appK_eq, srun_nil, srun_cons, fin_ret, sk_mv, sk_give, sk_bin, sk_lenL, get_mk, raw_slot, raw_lit, put_some, wb_nil, ev_mv, ev_give, ev_lenL, bin_lss, ro_int, ro_bool, ro_excl, List.map_cons, List.map_nil, List.getD_cons_zero, List.getD_cons_succ, List.set_cons_zero, List.set_cons_succ, List.replicate_succ, List.replicate_zero, List.cons_append, List.nil_append, true_and, Bool.false_eq_true, ↓reduceIte]
      first | exact ⟨_, .same⟩ | exact ⟨_, .same, rfl⟩ | exact ⟨_, .same, rfl, rfl⟩
    · simp (maxSteps := 2000000) (disch := first | omega | (simp only [List.length_append, List.length_cons, List.length_nil, List.length_map] <;> omega)) only [hd, lpK_e, flg_bool, swp_seq, swp_reg, swp_ret, swp_exit, swp_cond, seqK_n, seqK_e, blkK_e, condK_f, evK_some, appK_eq, srun_nil, srun_cons, fin_ret, sk_mv, sk_give, sk_bin, sk_lenL, get_mk, raw_slot, raw_lit, put_some, wb_nil, ev_mv, ev_give, ev_lenL, bin_lss, ro_int, ro_bool, ro_own, List.map_cons, List.map_nil, List.getD_cons_zero, List.getD_cons_succ, List.set_cons_zero, List.set_cons_succ, List.replicate_succ, List.replicate_zero, List.cons_append, List.nil_append, true_and, Bool.false_eq_true, ↓reduceIte]
      first | exact ⟨_, .same⟩ | exact ⟨_, .same, rfl⟩ | exact ⟨_, .same, rfl, rfl⟩
  have hd : decide ((i : Int) < (l.length : Int)) = true := by rw [decide_eq_true_eq]; omega
  have hil : i < l.length := by omega
  have hat := ssv_at l i l[i] (List.getElem?_eq_getElem hil)
  have fin : ((l.length : Int) - ((i + 1 : Nat) : Int)).toNat < ((l.length : Int) - (i : Int)).toNat := by omega
  have k14 : O15 55 [.str l[i]] st (.bool (nameB l[i])) st := (by repeat first | exact Or.inr ⟨rfl, rfl, _, hm _ (List.getElem_mem hil), rfl, rfl⟩ | refine Or.inl ?_)
  rcases hfl with rfl | rfl
  all_goals
    simp (maxSteps := 2000000) (disch := first | omega | (simp only [List.length_append, List.length_cons, List.length_nil, List.length_map] <;> omega)) only [hd, hat, Int.toNat_natCast, exc_str, sk_idxB, idxB_own, idxB_excl, swp_seq, swp_reg, swp_skip, swp_block, swp_cond, seqK_n, condK_t, evK_some, appK_eq, srun_nil, srun_cons, stepK_call, sk_mv, sk_bin, sk_load, sk_lenL, get_mk, raw_slot, put_some, wb_nil, wb_cons, ev_mv, ev_lenL, bin_lss, ev_loadE, ro_int, ro_str, ro_own, ro_excl, got_str, pubs, pubsFrom, List.map_cons, List.map_nil, List.getD_cons_zero, List.getD_cons_succ, List.set_cons_zero, List.set_cons_succ, List.getElem?_cons_zero, List.replicate_succ, List.replicate_zero, List.cons_append, List.nil_append, Bool.false_eq_true, Option.map_some, ↓reduceIte, Nat.mul_one]
    refine callK_intro k14 ?_
    cases hn : nameB l[i] with
    | false =>
      have hf : l.all nameB = false := by
        rw [List.all_eq_false]
        exact ⟨_, List.getElem_mem hil, by rw [hn]; simp⟩
      rw [hf]
      simp (maxSteps := 2000000) (disch := first | omega | (simp only [List.length_append, List.length_cons, List.length_nil, List.length_map] <;> omega)) only [lpK_r, flg_bool, swp_seq, swp_reg, swp_ret, swp_cond, seqK_n, seqK_r, blkK_r, condK_t, evK_some, appK_eq, appC_eq, srun_nil, srun_cons, fin_ret, sk_give, sk_un, get_mk, raw_slot, raw_lit, put_some, wb_nil, ev_give, ev_not, ro_bool, List.map_cons, List.map_nil, List.getD_cons_zero, List.getD_cons_succ, List.set_cons_zero, List.set_cons_succ, true_and, Bool.false_eq_true, ↓reduceIte, Bool.not_false]
      first | exact ⟨_, .same⟩ | exact ⟨_, .same, rfl⟩ | exact ⟨_, .same, rfl, rfl⟩
    | true =>
      simp (maxSteps := 2000000) (disch := first | omega | (simp only [List.length_append, List.length_cons, List.length_nil, List.length_map] <;> omega)) only [lpK_n, flg_int, swp_reg, swp_skip, swp_cond, seqK_n, blkK_n, condK_f, evK_some, appK_eq, appC_eq, srun_nil, srun_cons, sk_mv, sk_give, sk_bin, sk_un, get_mk, raw_slot, raw_lit, put_some, wb_nil, ev_mv, ev_give, ev_not, bin_add, ro_int, List.map_cons, List.map_nil, List.getD_cons_zero, List.getD_cons_succ, List.set_cons_zero, List.set_cons_succ, Bool.false_eq_true, ↓reduceIte, Bool.not_true, wrap_i64]
      refine ⟨_, ?_, ⟨i + 1, .own 1, by omega, .inr rfl, by rw [← List.take_append_getElem hil, List.all_append, hall]; simp [hn], rfl⟩, by exact fin⟩
      refine Forget.of ?_
      repeat first | exact fg_e | refine fg_d ?_ | refine fg_k rfl ?_
def O16 : Orc := O15.add 39 (FnC KRight)
theorem s16 : Sound Tryd.prog O16 := s15.addP c39 (by kernel_rfl) (by
  rintro args r ⟨s, hs, rfl, rfl⟩
  exact ⟨by simp [sf39], fun st => f17 s hs st⟩)
def namesW (s : List UInt8) : SV := if rightB s = true then .sl (ssv (spl s)) (spl s).length (.excl 1) else .nilS
def KNamesW : List SV → SV → Prop := fun args r => ∃ s : List UInt8, sm s ∧ args = [.str s] ∧ r = namesW s
def O17 : Orc := O16
theorem s17 : Sound Tryd.prog O17 := s16
theorem jn_succ (l : List (List UInt8)) (i : Nat) (hi : i < l.length) : jn (l.take (i + 1)) = if 0 < i then jn (l.take i) ++ [47] ++ l[i] else l[i] := by
  rw [← List.take_append_getElem hi]
  by_cases h : 0 < i
  · have hne : l.take i ≠ [] := by
      intro e
      have := congrArg List.length e
      rw [List.length_take, List.length_nil] at this
      omega
    rw [if_pos h, jn_snoc hne]; simp
  · rw [if_neg h]
    generalize l[i] = x
    rw [show i = 0 by omega]; rfl
theorem fine_five {l : List (List UInt8)} (h : (l.take 5).all nameB = true) : fineL l = fineL (l.take 5) := by
  unfold fineL
  rw [List.length_take]
  by_cases h4 : l.length ≤ 4
  · rw [List.take_of_length_le (by omega), Nat.min_eq_right (by omega)]
  · rw [decide_eq_false h4, decide_eq_false (by omega : ¬ min 5 l.length ≤ 4)]; simp
theorem right_jn {l : List (List UInt8)} (h : l.all nameB = true) : rightB (jn l) = fineL l := by
  cases l with
  | nil => decide
  | cons x r =>
    rw [right_fine, spl_jn (x :: r) (by simp) (fun y hy => name_no (List.all_eq_true.1 h y hy))]
set_option maxHeartbeats 8000000 in
def O18 : Orc := O17
theorem s18 : Sound Tryd.prog O18 := s17
end Go.Sh.F
namespace Go.Sh.F
open Go.PathLaw Go.Proofs
theorem slcL_hi_excl {st : List Ob} {xs : List SV} {n es e : Nat} {k : IntKind} {b : Int} (h0 : 0 ≤ b) (h1 : b ≤ n) (h2 : xs.length = n * es) : ev st (.slcL es false true false) [.sl xs n (.excl e), .int k b] = some (.sl (xs.take (b.toNat * es)) b.toNat .ro, [(0, .sl xs n (.own e))], st) := by
  simp [ev_slcL, slcV, intOfV, h0, h1, h2, exc, pub]
def O19 : Orc := O18
theorem s19 : Sound Tryd.prog O19 := s18
theorem under_at (s d : List UInt8) : (d ++ [47]).isPrefixOf s = (decide (d.length < s.length) && (s.take d.length == d) && (s[d.length]? == some 47)) := by
  rw [Bool.eq_iff_iff, List.isPrefixOf_iff_prefix, Bool.and_eq_true, Bool.and_eq_true, decide_eq_true_eq, beq_iff_eq, beq_iff_eq]
  constructor
  · rintro ⟨t, rfl⟩
    simp
  · rintro ⟨⟨h1, h2⟩, h3⟩
    refine ⟨s.drop (d.length + 1), ?_⟩
    rw [List.getElem?_eq_getElem h1] at h3
    have e : s = s.take d.length ++ s[d.length] :: s.drop (d.length + 1) := by rw [← List.drop_eq_getElem_cons h1, List.take_append_drop]
    rw [h2] at e
    rw [Option.some.inj h3] at e
    rw [List.append_assoc]
    exact e.symm
set_option maxHeartbeats 4000000 in
theorem f25 (s d : List UInt8) (hs : sm s) (hd : sm d) (st : List Ob) : swpF O19 sf40 [.str s, .str d] st (fun r st' => r = .bool (underB s d) ∧ st' = st) := by
  have k1 : O19 39 [.str s] st (.bool (rightB s)) st := (by repeat first | exact Or.inr ⟨rfl, rfl, s, hs, rfl, rfl⟩ | refine Or.inl ?_)
  have k2 : O19 39 [.str d] st (.bool (rightB d)) st := (by repeat first | exact Or.inr ⟨rfl, rfl, d, hd, rfl, rfl⟩ | refine Or.inl ?_)
  unfold underB
  rw [under_at]
  simp (maxSteps := 2000000) (disch := first | omega | (simp only [List.length_append, List.length_cons, List.length_nil, List.length_map] <;> omega)) only [sf40, flg_bool, exc_str, swp_seq, swp_reg, seqK_n, evK_some, appK_eq, srun_nil, srun_cons, stepK_call, swpF_eq, sk_mv, sk_give, get_mk, raw_slot, raw_lit, put_some, wb_nil, ev_mv, ev_give, ro_bool, ro_str, got_str, pubs, pubsFrom, List.map_cons, List.map_nil, List.getD_cons_zero, List.set_cons_zero, List.set_cons_succ, List.length_cons, List.length_nil, List.replicate_succ, List.replicate_zero, List.cons_append, List.nil_append, Nat.reduceAdd, Nat.reduceSub, Bool.false_eq_true, ↓reduceIte, Nat.zero_add]
  refine callK_intro k1 ?_
  cases h1 : rightB s with
  | false =>
    simp (maxSteps := 2000000) (disch := first | omega | (simp only [List.length_append, List.length_cons, List.length_nil, List.length_map] <;> omega)) only [flg_bool, swp_seq, swp_reg, swp_ret, swp_cond, seqK_n, seqK_r, condK_t, evK_some, appK_eq, appC_eq, grd_t, srun_nil, srun_cons, stepK_grd, fin_ret, sk_mv, sk_give, sk_pick, sk_un, get_mk, raw_slot, raw_lit, put_some, wb_nil, ev_mv, ev_give, ev_pick, ev_not, ro_bool, List.map_cons, List.map_nil, List.getD_cons_zero, List.getD_cons_succ, List.set_cons_zero, List.set_cons_succ, Bool.false_eq_true, ↓reduceIte, reduceCtorEq, Bool.not_false]
    first | exact ⟨_, .same⟩ | exact ⟨_, .same, rfl⟩ | exact ⟨_, .same, rfl, rfl⟩
  | true =>
    simp (maxSteps := 2000000) (disch := first | omega | (simp only [List.length_append, List.length_cons, List.length_nil, List.length_map] <;> omega)) only [exc_str, evK_some, appK_eq, appC_eq, grd_t, srun_cons, stepK_call, stepK_grd, sk_mv, sk_take, sk_un, get_mk, raw_slot, put_some, wb_nil, ev_mv, ev_take, ev_not, ro_bool, got_str, pubs, pubsFrom, List.map_cons, List.map_nil, List.getD_cons_zero, List.getD_cons_succ, List.set_cons_zero, List.set_cons_succ, Bool.false_eq_true, ↓reduceIte, Bool.not_true]
    refine callK_intro k2 ?_
    cases h2 : rightB d with
    | false =>
      simp (maxSteps := 2000000) (disch := first | omega | (simp only [List.length_append, List.length_cons, List.length_nil, List.length_map] <;> omega)) only [flg_bool, swp_seq, swp_reg, swp_ret, swp_cond, seqK_n, seqK_r, condK_t, evK_some, appK_eq, appC_eq, grd_t, srun_nil, srun_cons, stepK_grd, fin_ret, sk_mv, sk_give, sk_pick, sk_un, get_mk, raw_slot, raw_lit, put_some, wb_nil, ev_mv, ev_give, ev_pick, ev_not, ro_bool, List.map_cons, List.map_nil, List.getD_cons_zero, List.getD_cons_succ, List.set_cons_zero, List.set_cons_succ, Bool.false_eq_true, ↓reduceIte, reduceCtorEq, Bool.not_false]
      first | exact ⟨_, .same⟩ | exact ⟨_, .same, rfl⟩ | exact ⟨_, .same, rfl, rfl⟩
    | true =>
      by_cases hl : d.length < s.length
      case neg =>
        have d1 : decide ((s.length : Int) ≤ (d.length : Int)) = true := by rw [decide_eq_true_eq]; omega
        have d2 : decide (d.length < s.length) = false := by rw [decide_eq_false_iff_not]; omega
        simp (maxSteps := 2000000) (disch := first | omega | (simp only [List.length_append, List.length_cons, List.length_nil, List.length_map] <;> omega)) only [d1, flg_bool, exc_str, swp_seq, swp_reg, swp_ret, swp_cond, seqK_n, seqK_r, condK_t, evK_some, appK_eq, appC_eq, grd_t, srun_nil, srun_cons, stepK_grd, fin_ret, sk_mv, sk_take, sk_give, sk_pick, sk_bin, sk_un, sk_lenS, get_mk, raw_slot, raw_lit, put_some, wb_nil, ev_mv, ev_take, ev_give, ev_pick, ev_not, ev_lenS, bin_leq, ro_bool, got_str, List.map_cons, List.map_nil, List.getD_cons_zero, List.getD_cons_succ, List.set_cons_zero, List.set_cons_succ, Bool.false_eq_true, ↓reduceIte, Bool.and_self, Bool.not_true]
        exact ⟨_, .same, by rw [d2]; rfl, rfl⟩
      have d1 : decide ((s.length : Int) ≤ (d.length : Int)) = false := by rw [decide_eq_false_iff_not]; omega
      have d2 : decide (d.length < s.length) = true := by rw [decide_eq_true_eq]; exact hl
      have hat2 : ∀ st, ev st .idxS [.str s, .int .i64 (d.length : Int)] = some (.int .u8 s[d.length].toNat, [], st) := fun st => by
        rw [ev_idxS (by omega), Int.toNat_natCast, List.getElem?_eq_getElem hl]; rfl
      have e5 : ((s[d.length].toNat : Int) == 47) = (s[d.length]? == some 47) := by
        rw [List.getElem?_eq_getElem hl, Bool.eq_iff_iff, beq_iff_eq, beq_iff_eq, Option.some.injEq, ← UInt8.toNat_inj]
        show (s[d.length].toNat : Int) = 47 ↔ s[d.length].toNat = 47
        omega
      rw [d2]
      cases hx : (s.take d.length == d) with
      | false =>
        simp (maxSteps := 2000000) (disch := first | omega | (simp only [List.length_append, List.length_cons, List.length_nil, List.length_map] <;> omega)) only [d1, hx, Int.toNat_natCast, flg_bool, exc_str, swp_seq, swp_reg, swp_skip, swp_ret, swp_cond, seqK_n, condK_f, evK_some, appK_eq, appC_eq, grd_t, srun_nil, srun_cons, stepK_grd, fin_ret, sk_mv, sk_take, sk_give, sk_pick, sk_bin, sk_un, sk_lenS, sk_slcS, get_mk, raw_slot, raw_lit, put_some, wb_nil, ev_mv, ev_take, ev_give, ev_pick, ev_not, ev_lenS, bin_leq, bin_eqlS, slcS_hi, ro_bool, ro_str, got_str, List.map_cons, List.map_nil, List.getD_cons_zero, List.getD_cons_succ, List.set_cons_zero, List.set_cons_succ, Bool.false_eq_true, ↓reduceIte, Bool.and_self, Bool.not_true]
        first | exact ⟨_, .same⟩ | exact ⟨_, .same, rfl⟩ | exact ⟨_, .same, rfl, rfl⟩
      | true =>
        simp (maxSteps := 2000000) (disch := first | omega | (simp only [List.length_append, List.length_cons, List.length_nil, List.length_map] <;> omega)) only [d1, hx, hat2, e5, Int.toNat_natCast, flg_bool, exc_str, swp_seq, swp_reg, swp_skip, swp_ret, swp_cond, seqK_n, condK_f, evK_some, appK_eq, appC_eq, grd_t, srun_nil, srun_cons, stepK_grd, fin_ret, sk_mv, sk_take, sk_give, sk_pick, sk_bin, sk_un, sk_idxS, sk_lenS, sk_slcS, get_mk, raw_slot, raw_lit, put_some, wb_nil, ev_mv, ev_take, ev_give, ev_pick, ev_not, ev_lenS, bin_eql, bin_leq, bin_eqlS, slcS_hi, ro_bool, ro_str, got_str, List.map_cons, List.map_nil, List.getD_cons_zero, List.getD_cons_succ, List.set_cons_zero, List.set_cons_succ, Bool.false_eq_true, ↓reduceIte, Bool.and_self, Bool.not_true]
        first | exact ⟨_, .same⟩ | exact ⟨_, .same, rfl⟩ | exact ⟨_, .same, rfl, rfl⟩
def O20 : Orc := O19.add 40 (FnC KUnder)
theorem s20 : Sound Tryd.prog O20 := s19.addP c40 (by kernel_rfl) (by
  rintro args r ⟨s, d, hs, hd, rfl, rfl⟩
  exact ⟨by simp [sf40], fun st => f25 s d hs hd st⟩)
theorem bin_leqS2 {st : List Ob} {x y : List UInt8} : ev st (.bin .leq) [.str x, .str y] = some (.bool (!(lt y x)), [], st) := by rw [bin_leqS, leq_lt]
set_option maxHeartbeats 8000000 in
def O21 : Orc := O20
theorem s21 : Sound Tryd.prog O21 := s20
set_option maxHeartbeats 1000000 in
theorem f12 (O : Orc) (v u : SV) (a b : List (List UInt8)) (hv : rdS v a) (hu : rdS u b) (hal : a.length ≤ 1099511627776) (st : List Ob) :
    swpF O sf26 [v, u] st (fun r st' => r = .bool (decide (a = b)) ∧ st' = st) := by
  have hla : ∀ {w : SV} {l : List (List UInt8)} {st : List Ob}, rdS w l → ev st .lenL [w] = some (.int .i64 l.length, [], st) := by
    rintro w l st (⟨rfl, rfl⟩ | rfl)
    · exact ev_lenN
    · exact ev_lenL
  have hv1 := hla (st := st) hv
  have hu1 := hla (st := st) hu
  obtain ⟨hro, hgot, hexc, hflg, _⟩ := rdS_facts hv
  obtain ⟨hro', hgot', hexc', hflg', _⟩ := rdS_facts hu
  by_cases hlen : a.length = b.length
  case neg =>
    have hd : ((a.length : Int) != (b.length : Int)) = true := by simp; omega
    have hne : decide (a = b) = false := by simp; intro h; exact hlen (by rw [h])
    rw [hne]
    simp (maxSteps := 2000000) (disch := first | omega | (simp only [List.length_append, List.length_cons, List.length_nil, List.length_map] <;> omega)) only [sf26, hro, hro', hv1, hu1, hd, flg_bool, swp_seq, swp_reg, swp_ret, swp_cond, seqK_n, seqK_r, condK_t, evK_some, appK_eq, srun_nil, srun_cons, fin_ret, swpF_eq, sk_mv, sk_give, sk_bin, sk_lenL, get_mk, raw_slot, raw_lit, put_some, wb_nil, ev_mv, ev_give, bin_neq, ro_bool, List.map_cons, List.map_nil, List.getD_cons_zero, List.getD_cons_succ, List.set_cons_zero, List.set_cons_succ, List.length_cons, List.length_nil, List.replicate_succ, List.replicate_zero, List.cons_append, List.nil_append, Nat.reduceAdd, Nat.reduceSub, true_and, Bool.false_eq_true, ↓reduceIte, Nat.zero_add]
    exact ⟨_, .same, rfl⟩
  have hd : ((a.length : Int) != (b.length : Int)) = false := by simp; omega
  simp (maxSteps := 2000000) (disch := first | omega | (simp only [List.length_append, List.length_cons, List.length_nil, List.length_map] <;> omega)) only [sf26, hro, hro', hv1, hu1, hd, flg_bool, exc_int, swp_seq, swp_reg, swp_skip, swp_block, swp_cond, seqK_n, condK_f, evK_some, appK_eq, srun_nil, srun_cons, swpF_eq, sk_mv, sk_take, sk_give, sk_bin, sk_lenL, get_mk, raw_slot, raw_lit, put_some, wb_nil, ev_mv, ev_take, ev_give, bin_neq, ro_bool, got_int, List.map_cons, List.map_nil, List.getD_cons_zero, List.getD_cons_succ, List.set_cons_zero, List.set_cons_succ, List.length_cons, List.length_nil, List.replicate_succ, List.replicate_zero, List.cons_append, List.nil_append, Nat.reduceAdd, Nat.reduceSub, Bool.false_eq_true, ↓reduceIte, Nat.zero_add]
  refine swp_lp (fun S => ∃ i : Nat, i ≤ a.length ∧ a.take i = b.take i ∧
      S = ⟨[v, u, .undef, .undef, .bool false, .int .i64 i] ++ List.replicate 20 .undef, st⟩)
      (fun S => match S.get 5 with | .int _ k => ((a.length : Int) - k).toNat | _ => 0)
      ⟨[v, u, .undef, .undef, .bool false, .int .i64 0] ++ List.replicate 20 .undef, st⟩ ?_ ⟨0, by omega, by simp, rfl⟩ ?_
  · refine Forget.of ?_
    repeat first | exact fg_e | refine fg_d ?_ | refine fg_k rfl ?_
  rintro S ⟨i, hi, htk, rfl⟩
  by_cases him : i = a.length
  · have hd : decide ((i : Int) < (a.length : Int)) = false := by simp; omega
    have he : decide (a = b) = true := by
      rw [List.take_of_length_le (by omega), List.take_of_length_le (by omega)] at htk
      simpa using htk
    rw [he]
    simp (maxSteps := 2000000) (disch := first | omega | (simp only [List.length_append, List.length_cons, List.length_nil, List.length_map] <;> omega)) only [hro, hv1, hd, lpK_e, flg_bool, swp_seq, swp_reg, swp_ret, swp_exit, swp_cond, seqK_n, seqK_e, blkK_e, condK_f, evK_some, appK_eq, srun_nil, srun_cons, fin_ret, sk_mv, sk_give, sk_bin, sk_lenL, get_mk, raw_slot, raw_lit, put_some, wb_nil, ev_mv, ev_give, bin_lss, ro_int, ro_bool, List.map_cons, List.map_nil, List.getD_cons_zero, List.getD_cons_succ, List.set_cons_zero, List.set_cons_succ, List.replicate_succ, List.replicate_zero, List.cons_append, List.nil_append, true_and, Bool.false_eq_true, ↓reduceIte]
    exact ⟨_, .same, rfl⟩
  · have hd : decide ((i : Int) < (a.length : Int)) = true := by simp; omega
    have hia : i < a.length := by omega
    have hib : i < b.length := by omega
    have hga := ssv_at a i (a[i]) (List.getElem?_eq_getElem hia)
    have hgb := ssv_at b i (b[i]) (List.getElem?_eq_getElem hib)
    have hva : v = .sl (ssv a) a.length .ro := by
      rcases hv with ⟨_, rfl⟩ | h
      · simp at hia
      · exact h
    have hub : u = .sl (ssv b) b.length .ro := by
      rcases hu with ⟨_, rfl⟩ | h
      · simp at hib
      · exact h
    have hsa := ssv_len a
    have hsb := ssv_len b
    subst hva hub
    by_cases hx : a[i] = b[i]
    · have hxb : (a[i] == b[i]) = true := by simpa using hx
      simp (maxSteps := 2000000) (disch := first | omega | (simp only [List.length_append, List.length_cons, List.length_nil, List.length_map] <;> omega)) only [hd, hga, hgb, hxb, lpK_n, Int.toNat_natCast, flg_int, swp_seq, swp_reg, swp_skip, swp_block, swp_cond, seqK_n, blkK_n, condK_t, condK_f, evK_some, appK_eq, srun_nil, srun_cons, sk_mv, sk_give, sk_bin, sk_idxA, sk_load, sk_lenL, get_mk, raw_slot, raw_lit, put_some, wb_nil, ev_mv, ev_give, ev_lenL, bin_add, bin_lss, bin_neqS, ev_loadE, idxA_ro, ro_int, ro_str, ro_ro, List.map_cons, List.map_nil, List.getD_cons_zero, List.getD_cons_succ, List.set_cons_zero, List.set_cons_succ, List.replicate_succ, List.replicate_zero, List.cons_append, List.nil_append, Bool.false_eq_true, Option.map_some, ↓reduceIte, Nat.mul_one, Bool.not_true, wrap_i64]
      refine ⟨_, ?_, ⟨i + 1, by omega, ?_, rfl⟩, ?_⟩
      · refine Forget.of ?_
        repeat first | exact fg_e | refine fg_d ?_ | refine fg_k rfl ?_
      · rw [← List.take_append_getElem hia, ← List.take_append_getElem hib, htk, hx]
      · show ((a.length : Int) - ((i + 1 : Nat) : Int)).toNat < ((a.length : Int) - (i : Int)).toNat
        omega
    · have hxb : (a[i] == b[i]) = false := by simpa using hx
      have hne : decide (a = b) = false := by
        simp
        intro h
        subst h
        exact hx rfl
      rw [hne]
      simp (maxSteps := 2000000) (disch := first | omega | (simp only [List.length_append, List.length_cons, List.length_nil, List.length_map] <;> omega)) only [hd, hga, hgb, hxb, lpK_r, Int.toNat_natCast, flg_bool, swp_seq, swp_reg, swp_skip, swp_ret, swp_block, swp_cond, seqK_n, seqK_r, blkK_r, condK_t, evK_some, appK_eq, srun_nil, srun_cons, fin_ret, sk_mv, sk_give, sk_bin, sk_idxA, sk_load, sk_lenL, get_mk, raw_slot, raw_lit, put_some, wb_nil, ev_mv, ev_give, ev_lenL, bin_lss, bin_neqS, ev_loadE, idxA_ro, ro_int, ro_bool, ro_str, ro_ro, List.map_cons, List.map_nil, List.getD_cons_zero, List.getD_cons_succ, List.set_cons_zero, List.set_cons_succ, List.replicate_succ, List.replicate_zero, List.cons_append, List.nil_append, true_and, Bool.false_eq_true, Option.map_some, ↓reduceIte, Nat.mul_one, Bool.not_false]
      exact ⟨_, .same, rfl⟩
def KRows : List SV → SV → Prop := fun args r => ∃ v u a b, rdS v a ∧ rdS u b ∧ a.length ≤ 1099511627776 ∧ args = [v, u] ∧ r = .bool (decide (a = b))
def O22 : Orc := O21.add 26 (FnC KRows)
theorem s22 : Sound Tryd.prog O22 := s21.addP c26 (by kernel_rfl) (by
  rintro args r ⟨v, u, a, b, hv, hu, hal, rfl, rfl⟩
  exact ⟨by simp [sf26], fun st => f12 _ v u a b hv hu hal st⟩)

/-! All of them. -/
theorem p12 {v u : SV} {a b : List (List UInt8)} (hv : rdS v a) (hu : rdS u b) (hl : a.length ≤ 1099511627776) (st : List Ob) : O22 26 [v, u] st (.bool (decide (a = b))) st := (by repeat first | exact Or.inr ⟨rfl, rfl, v, u, a, b, hv, hu, hl, rfl, rfl⟩ | refine Or.inl ?_)
theorem p25 {s d : List UInt8} (hs : sm s) (hd : sm d) (st : List Ob) : O22 40 [.str s, .str d] st (.bool (underB s d)) st := (by repeat first | exact Or.inr ⟨rfl, rfl, s, d, hs, hd, rfl, rfl⟩ | refine Or.inl ?_)
theorem p17 {s : List UInt8} (hs : sm s) (st : List Ob) : O22 39 [.str s] st (.bool (rightB s)) st := (by repeat first | exact Or.inr ⟨rfl, rfl, s, hs, rfl, rfl⟩ | refine Or.inl ?_)
theorem p15 {s : List UInt8} (hs : sm s) (st : List Ob) : O22 55 [.str s] st (.bool (nameB s)) st := (by repeat first | exact Or.inr ⟨rfl, rfl, s, hs, rfl, rfl⟩ | refine Or.inl ?_)
theorem p22 {v : SV} {l : List (List UInt8)} (hl : smA l) (hv : rdS v l) (st : List Ob) : O22 29 [v] st (.bool (sortedB l)) st := (by repeat first | exact Or.inr ⟨rfl, rfl, v, l, hl, hv, rfl, rfl⟩ | refine Or.inl ?_)
theorem p26 {s d : List UInt8} (hs : sm s) (hd : sm d) (st : List Ob) : O22 33 [.str s, .str d] st (.bool (clashB s d)) st := (by repeat first | exact Or.inr ⟨rfl, rfl, s, d, hs, hd, rfl, rfl⟩ | refine Or.inl ?_)
theorem p24 {s d : List UInt8} (hs : sm s) (hd : sm d) (st : List Ob) : O22 30 [.str s, .str d] st (.bool (underB s d)) st := (by repeat first | exact Or.inr ⟨rfl, rfl, s, d, hs, hd, rfl, rfl⟩ | refine Or.inl ?_)
theorem p20 {s : List UInt8} (hs : sm s) (st : List Ob) : O22 31 [.str s] st (.str (parentB s)) st := (by repeat first | exact Or.inr ⟨rfl, rfl, s, hs, rfl, rfl⟩ | refine Or.inl ?_)
theorem p18 {v : SV} {l : List (List UInt8)} (hl : smL l) (hv : rdS v l) (st : List Ob) : O22 47 [v] st (.str (joinP l)) st := (by repeat first | exact Or.inr ⟨rfl, rfl, v, l, hl, hv, rfl, rfl⟩ | refine Or.inl ?_)
theorem p16 {s : List UInt8} (hs : sm s) (st : List Ob) : O22 35 [.str s] st (.bool (rightB s)) st := (by repeat first | exact Or.inr ⟨rfl, rfl, s, hs, rfl, rfl⟩ | refine Or.inl ?_)
theorem p11 {s : List UInt8} (hs : sm s) (st : List Ob) : O22 46 [.str s] st (namesV s) st := (by repeat first | exact Or.inr ⟨rfl, rfl, s, hs, rfl, rfl⟩ | refine Or.inl ?_)
theorem p14 {s : List UInt8} (hs : sm s) (st : List Ob) : O22 58 [.str s] st (.bool (nameB s)) st := (by repeat first | exact Or.inr ⟨rfl, rfl, s, hs, rfl, rfl⟩ | refine Or.inl ?_)
end Go.Sh.F
