/-
  Names, paths: the program's functions, in the shadow machine.
  Paths: the program's functions, in the shadow machine (Names to Sorted).
  Paths: Sorted; the document's names, pieces, in the shadow machine.
  Paths: the document's functions, in the shadow machine.
  Paths: the document's Right to Sorted, in the shadow machine.
  Paths: the document's Parent, Under, Sorted; two rows; the law's small case, in the shadow machine.
  Records: numbers within, clocks, how many pieces, in the shadow machine.
  Records and chains: what is told of manifests, in plain words.
  Records: right pieces, right manifests, in the shadow machine.
  Records: right manifests, small ones, rows of numbers, in the shadow machine.
-/
import Derived.Test.YtdoncjpkmjganaaDoorT1
import Derived.Test.YtdoncjpkmjganaaDoorShelf
import Derived.Test.YtdoncjpkmjganaaDoorShSp
import Derived.Test.YtdoncjpkmjganaaDoorShRd
set_option linter.unusedSimpArgs false
set_option linter.unusedVariables false
namespace Go.Sh.F
open Go.PathLaw Go.Proofs
def O1 : Orc := Orc.none.add 51 (FnC KSplit)
theorem s1 : Sound Tryd.prog O1 := Sound.none.addR (rSplit Tryd.lays146 (by kernel_rfl) rfl (by kernel_rfl))
def O2 : Orc := O1.add 54 (FnC KIndexByte)
theorem s2 : Sound Tryd.prog O2 := s1.addR (rIndexByte Tryd.lays137 rfl (by kernel_rfl))
def O3 : Orc := O2
theorem s3 : Sound Tryd.prog O3 := s2
def sm (s : List UInt8) : Prop := s.length ≤ 268435456

theorem pre_take (s p : List UInt8) : p.isPrefixOf s = (decide (p.length ≤ s.length) && (s.take p.length == p)) := by
  rw [Bool.eq_iff_iff, List.isPrefixOf_iff_prefix, Bool.and_eq_true, decide_eq_true_eq, beq_iff_eq]
  constructor
  · rintro ⟨t, rfl⟩
    simp
  · rintro ⟨h1, h2⟩
    exact ⟨s.drop p.length, by rw [← h2]; simp [Nat.min_eq_left h1]⟩
/-- HasPrefix. -/
def KPre : List SV → SV → Prop := fun args r => ∃ s p : List UInt8, args = [.str s, .str p] ∧ r = .bool (p.isPrefixOf s)
def O4 : Orc := O3
theorem s4 : Sound Tryd.prog O4 := s3
def O5 : Orc := O4
theorem s5 : Sound Tryd.prog O5 := s4
theorem idx_others (c : UInt8) : decide (Lib.indexByte [46, 45] (c.toNat.toUInt8) < 0) = !(c == 46 || c == 45) := by
  have e : c.toNat.toUInt8 = c := by simp
  rw [e]
  by_cases h1 : c = 46
  · subst h1; decide
  · by_cases h2 : c = 45
    · subst h2; decide
    · have e1 : ((46 : UInt8) == c) = false := by simpa using fun h => h1 h.symm
      have e2 : ((45 : UInt8) == c) = false := by simpa using fun h => h2 h.symm
      have e3 : (c == 46) = false := by simpa using h1
      have e4 : (c == 45) = false := by simpa using h2
      rw [e3, e4]
      simp [Lib.indexByte, e1, e2]
theorem o2_29 (s : List UInt8) (c : Int) (st : List Ob) : O5 54 [.str s, .int .u8 c] st (.int .i64 (Lib.indexByte s c.toNat.toUInt8)) st := (by repeat first | exact Or.inr ⟨rfl, rfl, s, c, rfl, rfl⟩ | refine Or.inl ?_)
theorem nameB_end (s : List UInt8) (h : s.all okB = true) : nameB s = (decide (1 ≤ s.length) && decide (s.length ≤ 12) && s != [46] && s != [46, 46]) := by
  rw [nameB, h, Bool.and_true]
theorem nameB_bad {s : List UInt8} {i : Nat} (hi : i < s.length) (h : okB s[i] = false) : nameB s = false := by
  have : s.all okB = false := by
    rw [List.all_eq_false]
    exact ⟨s[i], List.getElem_mem hi, by rw [h]; simp⟩
  rw [nameB, this, Bool.and_false]
theorem all_take_succ {s : List UInt8} {p : UInt8 → Bool} {i : Nat} (hi : i < s.length) : (s.take (i + 1)).all p = ((s.take i).all p && p s[i]) := by
  rw [← List.take_append_getElem hi, List.all_append]; simp
set_option maxHeartbeats 8000000 in
theorem f14 (s : List UInt8) (hs : sm s) (st : List Ob) : swpF O5 sf52 [.str s] st (fun r st' => r = .bool (nameB s) ∧ st' = st) := by
  unfold sm at hs
  simp (maxSteps := 2000000) (disch := first | omega | (simp only [List.length_append, List.length_cons, List.length_nil, List.length_map] <;> omega)) only [sf52, ev_s2b, flg_bool, swp_seq, swp_reg, swp_block, seqK_n, evK_some, appK_eq, srun_nil, srun_cons, swpF_eq, sk_mv, sk_give, sk_s2b, sk_lenL, get_mk, raw_slot, raw_lit, put_some, wb_nil, ev_mv, ev_give, ev_lenL, ro_int, ro_bool, ro_str, List.map_cons, List.map_nil, List.getD_cons_zero, List.getD_cons_succ, List.set_cons_zero, List.set_cons_succ, List.length_cons, List.length_nil, List.replicate_succ, List.replicate_zero, List.cons_append, List.nil_append, Nat.reduceSub, Bool.false_eq_true, ↓reduceIte, Nat.zero_add]
  have hb : (s.map fun b => SV.int .u8 b.toNat) = bsv s := rfl
  rw [hb]
  refine swp_lp (fun S => ∃ (i : Nat) (fl : Fl), i ≤ s.length ∧ (fl = .excl 1 ∨ fl = .own 1) ∧ (s.take i).all okB = true ∧
      S = ⟨[.str s, .undef, .bool false, .undef, .undef, .undef, .undef, .sl (bsv s) s.length fl, .int .i64 s.length, .int .i64 i] ++ List.replicate 41 .undef, st⟩)
      (fun S => match S.get 9 with | .int _ k => ((s.length : Int) - k).toNat | _ => 0)
      ⟨[.str s, .undef, .bool false, .undef, .undef, .undef, .undef, .sl (bsv s) s.length (.excl 1), .int .i64 s.length, .int .i64 0] ++ List.replicate 41 .undef, st⟩ ?_ ⟨0, .excl 1, Nat.zero_le _, .inl rfl, rfl, rfl⟩ ?_
  · refine Forget.of ?_
    repeat first | exact fg_e | refine fg_d ?_ | refine fg_k rfl ?_
  rintro S ⟨i, fl, hi, hfl, hall, rfl⟩
  by_cases him : i = s.length
  · have hd : decide ((i : Int) < (s.length : Int)) = false := by simp; omega
    rw [him, List.take_length] at hall
    rw [nameB_end s hall]
    by_cases h1 : 1 ≤ s.length
    case neg =>
      have d1 : decide ((0 : Int) < (s.length : Int)) = false := by rw [decide_eq_false_iff_not]; omega
      have d2 : decide (1 ≤ s.length) = false := by simpa using h1
      simp (maxSteps := 2000000) (disch := first | omega | (simp only [List.length_append, List.length_cons, List.length_nil, List.length_map] <;> omega)) only [hd, d1, lpK_e, flg_bool, swp_seq, swp_reg, swp_ret, swp_exit, swp_cond, seqK_n, seqK_e, blkK_e, condK_f, evK_some, appK_eq, grd_t, srun_nil, srun_cons, stepK_grd, fin_ret, sk_mv, sk_give, sk_pick, sk_bin, sk_lenS, get_mk, raw_slot, raw_lit, put_some, wb_nil, ev_mv, ev_give, ev_pick, ev_lenS, bin_lss, bin_gtr, ro_bool, ro_str, List.map_cons, List.map_nil, List.getD_cons_zero, List.getD_cons_succ, List.set_cons_zero, List.set_cons_succ, List.replicate_succ, List.replicate_zero, List.cons_append, List.nil_append, Bool.false_eq_true, ↓reduceIte, gt_iff_lt]
      exact ⟨_, .same, by rw [d2]; simp, rfl⟩
    have d1 : decide ((0 : Int) < (s.length : Int)) = true := by simp; omega
    have d2 : decide (1 ≤ s.length) = true := by simpa using h1
    by_cases h2 : s.length ≤ 12
    case neg =>
      have d3 : decide ((s.length : Int) ≤ 12) = false := by simp; omega
      have d4 : decide (s.length ≤ 12) = false := by simpa using h2
      simp (maxSteps := 2000000) (disch := first | omega | (simp only [List.length_append, List.length_cons, List.length_nil, List.length_map] <;> omega)) only [hd, d1, d3, lpK_e, flg_bool, exc_str, swp_seq, swp_reg, swp_ret, swp_exit, swp_cond, seqK_n, seqK_e, blkK_e, condK_f, evK_some, appK_eq, grd_t, srun_nil, srun_cons, stepK_grd, fin_ret, sk_mv, sk_take, sk_give, sk_pick, sk_bin, sk_lenS, get_mk, raw_slot, raw_lit, put_some, wb_nil, ev_mv, ev_take, ev_give, ev_pick, ev_lenS, bin_lss, bin_leq, bin_gtr, ro_bool, ro_str, got_str, List.map_cons, List.map_nil, List.getD_cons_zero, List.getD_cons_succ, List.set_cons_zero, List.set_cons_succ, List.replicate_succ, List.replicate_zero, List.cons_append, List.nil_append, Bool.false_eq_true, ↓reduceIte, gt_iff_lt]
      exact ⟨_, .same, by rw [d2, d4]; simp, rfl⟩
    have d3 : decide ((s.length : Int) ≤ 12) = true := by simp; omega
    have d4 : decide (s.length ≤ 12) = true := by simpa using h2
    rw [d2, d4, Bool.true_and, Bool.true_and]
    have x1 : (s != [46]) = !(s == [46]) := rfl
    have x2 : (s != [46, 46]) = !(s == [46, 46]) := rfl
    rw [x1, x2]
    cases hx : (s == [46]) <;> cases hy : (s == [46, 46]) <;> (simp (maxSteps := 2000000) (disch := first | omega | (simp only [List.length_append, List.length_cons, List.length_nil, List.length_map] <;> omega)) only [hd, d1, d3, hx, hy, lpK_e, flg_bool, exc_str, swp_seq, swp_reg, swp_ret, swp_exit, swp_cond, seqK_n, seqK_e, blkK_e, condK_f, evK_some, appK_eq, grd_t, srun_nil, srun_cons, stepK_grd, fin_ret, sk_mv, sk_take, sk_give, sk_pick, sk_bin, sk_lenS, get_mk, raw_slot, raw_lit, put_some, wb_nil, ev_mv, ev_take, ev_give, ev_pick, ev_lenS, bin_lss, bin_leq, bin_gtr, bin_neqS, ro_bool, ro_str, got_str, List.map_cons, List.map_nil, List.getD_cons_zero, List.getD_cons_succ, List.set_cons_zero, List.set_cons_succ, List.replicate_succ, List.replicate_zero, List.cons_append, List.nil_append, true_and, Bool.false_eq_true, ↓reduceIte, Bool.and_true, Bool.and_self, Bool.not_true, Bool.not_false, gt_iff_lt]; first | exact ⟨_, .same⟩ | exact ⟨_, .same, rfl⟩ | exact ⟨_, .same, rfl, rfl⟩)
  have hd : decide ((i : Int) < (s.length : Int)) = true := by simp; omega
  have hil : i < s.length := by omega
  have hat := bsv_at s i s[i] (List.getElem?_eq_getElem hil)
  have hsl := bsv_len s
  have hok : okB s[i] = (decide ((97 : Int) ≤ (s[i].toNat : Int)) && decide ((s[i].toNat : Int) ≤ 122) || decide ((48 : Int) ≤ (s[i].toNat : Int)) && decide ((s[i].toNat : Int) ≤ 57) || (s[i] == 46 || s[i] == 45)) := by
    have e1 : decide ((97 : Int) ≤ (s[i].toNat : Int)) = decide (97 ≤ s[i].toNat) := by rw [decide_eq_decide]; omega
    have e2 : decide ((s[i].toNat : Int) ≤ 122) = decide (s[i].toNat ≤ 122) := by rw [decide_eq_decide]; omega
    have e3 : decide ((48 : Int) ≤ (s[i].toNat : Int)) = decide (48 ≤ s[i].toNat) := by rw [decide_eq_decide]; omega
    have e4 : decide ((s[i].toNat : Int) ≤ 57) = decide (s[i].toNat ≤ 57) := by rw [decide_eq_decide]; omega
    rw [e1, e2, e3, e4, okB, Bool.or_assoc]
  have hio := idx_others s[i]
  have hbad : okB s[i] = false → nameB s = false := nameB_bad hil
  have hgood : okB s[i] = true → (s.take (i + 1)).all okB = true := fun h => by rw [all_take_succ hil, hall, h]; rfl
  have fin : ((s.length : Int) - ((i + 1 : Nat) : Int)).toNat < ((s.length : Int) - (i : Int)).toNat := by omega
  have k29 := o2_29 [46, 45] (s[i].toNat : Int) st
  obtain ⟨b1, hb1⟩ : ∃ b, decide ((97 : Int) ≤ (s[i].toNat : Int)) = b := ⟨_, rfl⟩
  obtain ⟨b2, hb2⟩ : ∃ b, decide ((s[i].toNat : Int) ≤ 122) = b := ⟨_, rfl⟩
  obtain ⟨b3, hb3⟩ : ∃ b, decide ((48 : Int) ≤ (s[i].toNat : Int)) = b := ⟨_, rfl⟩
  obtain ⟨b4, hb4⟩ : ∃ b, decide ((s[i].toNat : Int) ≤ 57) = b := ⟨_, rfl⟩
  obtain ⟨b5, hb5⟩ : ∃ b, (s[i] == 46 || s[i] == 45) = b := ⟨_, rfl⟩
  rw [hb1, hb2, hb3, hb4, hb5] at hok
  rw [hb5] at hio
  rcases hfl with rfl | rfl
  all_goals
    cases b1 <;> cases b2 <;> cases b3 <;> cases b4
    all_goals
      simp only [Bool.and_true, Bool.and_false, Bool.true_or, Bool.false_or, Bool.or_true, Bool.or_false] at hok
      simp (maxSteps := 2000000) (disch := first | omega | (simp only [List.length_append, List.length_cons, List.length_nil, List.length_map] <;> omega)) only [hd, hat, hb1, hb2, hb3, hb4, lpK_n, Int.toNat_natCast, flg_bool, flg_int, exc_bool, exc_int, exc_str, sk_idxB, idxB_own, idxB_excl, grd_s, swp_seq, swp_reg, swp_skip, swp_block, swp_cond, seqK_n, blkK_n, condK_t, condK_f, evK_some, appK_eq, grd_t, srun_nil, srun_cons, stepK_call, stepK_grd, sk_mv, sk_take, sk_give, sk_pick, sk_bin, sk_un, sk_load, get_mk, raw_slot, raw_lit, put_some, wb_nil, wb_cons, ev_mv, ev_take, ev_give, ev_pick, ev_not, bin_add, bin_lss, bin_leq, bin_geq, ev_loadE, ro_int, ro_bool, got_int, got_bool, got_str, pubs, pubsFrom, List.map_cons, List.map_nil, List.getD_cons_zero, List.getD_cons_succ, List.set_cons_zero, List.set_cons_succ, List.getElem?_cons_zero, List.replicate_succ, List.replicate_zero, List.cons_append, List.nil_append, Bool.false_eq_true, Option.map_some, ↓reduceIte, Nat.mul_one, reduceCtorEq, Bool.not_true, Bool.not_false, ge_iff_le, wrap_i64]
      first
        | (refine callK_intro k29 ?_
           cases b5
           · simp only [Bool.not_false] at hio
             rw [hbad hok]
             simp (maxSteps := 2000000) (disch := first | omega | (simp only [List.length_append, List.length_cons, List.length_nil, List.length_map] <;> omega)) only [hio, lpK_r, Int.toNat_natCast, flg_bool, swp_seq, swp_reg, swp_ret, swp_cond, seqK_n, seqK_r, blkK_r, condK_t, evK_some, appK_eq, appC_eq, grd_t, srun_nil, srun_cons, stepK_grd, fin_ret, sk_give, sk_pick, sk_bin, get_mk, raw_slot, raw_lit, put_some, wb_nil, ev_give, ev_pick, bin_lss, ro_bool, List.map_cons, List.map_nil, List.getD_cons_zero, List.getD_cons_succ, List.set_cons_zero, List.set_cons_succ, true_and, Bool.false_eq_true, ↓reduceIte]
             first | exact ⟨_, .same⟩ | exact ⟨_, .same, rfl⟩ | exact ⟨_, .same, rfl, rfl⟩
           · simp only [Bool.not_true] at hio
             simp (maxSteps := 2000000) (disch := first | omega | (simp only [List.length_append, List.length_cons, List.length_nil, List.length_map] <;> omega)) only [hio, lpK_n, Int.toNat_natCast, swp_reg, swp_skip, swp_cond, seqK_n, blkK_n, condK_f, evK_some, appK_eq, appC_eq, grd_t, srun_nil, srun_cons, stepK_grd, sk_mv, sk_pick, sk_bin, get_mk, raw_slot, raw_lit, put_some, wb_nil, ev_mv, ev_pick, bin_add, bin_lss, ro_int, ro_bool, List.map_cons, List.map_nil, List.getD_cons_zero, List.getD_cons_succ, List.set_cons_zero, List.set_cons_succ, ↓reduceIte, wrap_i64]
             refine ⟨_, ?_, ⟨i + 1, .own 1, by omega, .inr rfl, hgood hok, rfl⟩, fin⟩
             refine Forget.of ?_
             repeat first | exact fg_e | refine fg_d ?_ | refine fg_k rfl ?_)
        | (refine ⟨_, ?_, ⟨i + 1, .own 1, by omega, .inr rfl, hgood hok, rfl⟩, fin⟩
           refine Forget.of ?_
           repeat first | exact fg_e | refine fg_d ?_ | refine fg_k rfl ?_)
end Go.Sh.F
namespace Go.Sh.F
open Go.PathLaw Go.Proofs
def KName : List SV → SV → Prop := fun args r => ∃ s : List UInt8, sm s ∧ args = [.str s] ∧ r = .bool (nameB s)
def O6 : Orc := O5.add 52 (FnC KName)
theorem s6 : Sound Tryd.prog O6 := s5.addP c52 (by kernel_rfl) (by
  rintro args r ⟨s, hs, rfl, rfl⟩
  exact ⟨by simp [sf52], fun st => f14 s hs st⟩)
theorem o6_27 {s : List UInt8} (hs : sm s) (st : List Ob) : O6 51 [.str s, .str [47]] st (.sl (ssv (spl s)) (spl s).length .ro) st := (by repeat first | exact Or.inr ⟨rfl, rfl, s, by unfold sm at hs; omega, rfl, rfl⟩ | refine Or.inl ?_)
theorem spl_sm {s x : List UInt8} (hs : sm s) (hx : x ∈ spl s) : sm x := by
  have : ∀ s : List UInt8, ∀ x ∈ spl s, x.length ≤ s.length := by
    intro s
    induction s with
    | nil => intro x hx; simp [spl] at hx; subst hx; simp
    | cons c r ih =>
      intro x hx
      by_cases hc : c = 47
      · subst hc
        rw [spl_stroke] at hx
        rcases List.mem_cons.1 hx with rfl | hx
        · simp
        · have := ih x hx; simp; omega
      · cases hs : spl r with
        | nil => exact absurd hs (spl_ne r)
        | cons h t =>
          rw [spl_cons hc hs] at hx
          rw [hs] at ih
          rcases List.mem_cons.1 hx with rfl | hx
          · have := ih h List.mem_cons_self; simp; omega
          · have := ih x (List.mem_cons_of_mem _ hx); simp; omega
  have := this s x hx
  unfold sm at *; omega
theorem spl_length_le : ∀ s : List UInt8, (spl s).length ≤ s.length + 1
  | [] => by simp [spl]
  | c :: r => by
    have ih := spl_length_le r
    by_cases hc : c = 47
    · subst hc
      rw [spl_stroke]; simp; omega
    · cases hs : spl r with
      | nil => exact absurd hs (spl_ne r)
      | cons h t =>
        rw [spl_cons hc hs]
        rw [hs] at ih
        simp at ih ⊢; omega
/-- What Names hands back. -/
def namesV (s : List UInt8) : SV := if rightB s = true then .sl (ssv (spl s)) (spl s).length .ro else .nilS
theorem namesV_rdS (s : List UInt8) : rdS (namesV s) (namesOf s) := by
  unfold namesV
  cases h : rightB s with
  | true => rw [if_pos rfl, names_right h]; exact .inr rfl
  | false => rw [if_neg (by simp), names_wrong h]; exact .inl ⟨rfl, rfl⟩
set_option maxHeartbeats 8000000 in
theorem f11 (s : List UInt8) (hs : sm s) (st : List Ob) : swpF O6 sf48 [.str s] st (fun r st' => r = namesV s ∧ st' = st) := by
  have hll := spl_length_le s
  simp (maxSteps := 2000000) (disch := first | omega | (simp only [List.length_append, List.length_cons, List.length_nil, List.length_map] <;> omega)) only [sf48, flg_nilS, exc_str, swp_seq, swp_reg, seqK_n, evK_some, appK_eq, srun_nil, srun_cons, stepK_call, swpF_eq, sk_mv, sk_give, get_mk, raw_slot, raw_lit, put_some, wb_nil, ev_mv, ev_give, ro_str, ro_nilS, got_str, pubs, pubsFrom, List.map_cons, List.map_nil, List.getD_cons_zero, List.set_cons_zero, List.set_cons_succ, List.length_cons, List.length_nil, List.replicate_succ, List.replicate_zero, List.cons_append, List.nil_append, Nat.reduceSub, Bool.false_eq_true, ↓reduceIte, Nat.zero_add]
  refine callK_intro (o6_27 hs st) ?_
  by_cases h4 : (spl s).length ≤ 4
  case neg =>
    have d1 : decide ((4 : Int) < ((spl s).length : Int)) = true := by rw [decide_eq_true_eq]; omega
    have hr : rightB s = false := by rw [rightB, decide_eq_false h4]; rfl
    have e : namesV s = .nilS := by unfold namesV; rw [hr]; rfl
    rw [e]
    simp (maxSteps := 2000000) (disch := first | omega | (simp only [List.length_append, List.length_cons, List.length_nil, List.length_map] <;> omega)) only [d1, flg_nilS, flg_ro, swp_seq, swp_reg, swp_ret, swp_cond, seqK_n, seqK_r, condK_t, evK_some, appK_eq, appC_eq, srun_nil, srun_cons, fin_ret, sk_mv, sk_give, sk_bin, sk_lenL, get_mk, raw_slot, raw_lit, put_some, wb_nil, ev_mv, ev_give, ev_lenL, bin_gtr, ro_nilS, ro_ro, List.map_cons, List.map_nil, List.getD_cons_zero, List.getD_cons_succ, List.set_cons_zero, List.set_cons_succ, true_and, Bool.false_eq_true, ↓reduceIte, gt_iff_lt]
    first | exact ⟨_, .same⟩ | exact ⟨_, .same, rfl⟩ | exact ⟨_, .same, rfl, rfl⟩
  have d1 : decide ((4 : Int) < ((spl s).length : Int)) = false := by rw [decide_eq_false_iff_not]; omega
  have hr : rightB s = (spl s).all nameB := by rw [rightB, decide_eq_true h4, Bool.true_and]
  have hm : ∀ x ∈ spl s, sm x := fun x hx => spl_sm hs hx
  have hnv : namesV s = if (spl s).all nameB = true then .sl (ssv (spl s)) (spl s).length .ro else .nilS := by unfold namesV; rw [hr]
  rw [hnv]
  generalize spl s = l at *
  have hsl := ssv_len l
  simp (maxSteps := 2000000) (disch := first | omega | (simp only [List.length_append, List.length_cons, List.length_nil, List.length_map] <;> omega)) only [d1, flg_ro, swp_seq, swp_reg, swp_skip, swp_block, swp_cond, seqK_n, condK_f, evK_some, appK_eq, appC_eq, srun_nil, srun_cons, sk_mv, sk_give, sk_bin, sk_lenL, get_mk, raw_slot, raw_lit, put_some, wb_nil, ev_mv, ev_give, ev_lenL, bin_gtr, ro_int, ro_ro, List.map_cons, List.map_nil, List.getD_cons_zero, List.getD_cons_succ, List.set_cons_zero, List.set_cons_succ, Bool.false_eq_true, ↓reduceIte, gt_iff_lt]
  refine swp_lp (fun S => ∃ (i : Nat), i ≤ l.length ∧ (l.take i).all nameB = true ∧
      S = ⟨[.str s, .undef, .nilS, .sl (ssv l) l.length .ro, .undef, .undef, .undef, .undef, .undef, .undef, .undef, .sl (ssv l) l.length .ro, .int .i64 l.length, .int .i64 i] ++ List.replicate 8 .undef, st⟩)
      (fun S => match S.get 13 with | .int _ k => ((l.length : Int) - k).toNat | _ => 0)
      ⟨[.str s, .undef, .nilS, .sl (ssv l) l.length .ro, .undef, .undef, .undef, .undef, .undef, .undef, .undef, .sl (ssv l) l.length .ro, .int .i64 l.length, .int .i64 0] ++ List.replicate 8 .undef, st⟩ ?_ ⟨0, Nat.zero_le _, rfl, rfl⟩ ?_
  · refine Forget.of ?_
    repeat first | exact fg_e | refine fg_d ?_ | refine fg_k rfl ?_
  rintro S ⟨i, hi, hall, rfl⟩
  by_cases him : i = l.length
  · have hd : decide ((i : Int) < (l.length : Int)) = false := by rw [decide_eq_false_iff_not]; omega
    rw [him, List.take_length] at hall
    rw [hall]
    simp (maxSteps := 2000000) (disch := first | omega | (simp only [List.length_append, List.length_cons, List.length_nil, List.length_map] <;> omega)) only [hd, lpK_e, flg_ro, swp_seq, swp_reg, swp_ret, swp_exit, swp_cond, seqK_n, seqK_e, blkK_e, condK_f, evK_some, appK_eq, srun_nil, srun_cons, fin_ret, sk_mv, sk_give, sk_bin, get_mk, raw_slot, put_some, wb_nil, ev_mv, ev_give, bin_lss, ro_ro, List.map_cons, List.map_nil, List.getD_cons_zero, List.getD_cons_succ, List.set_cons_zero, List.set_cons_succ, List.replicate_succ, List.replicate_zero, List.cons_append, List.nil_append, true_and, Bool.false_eq_true, ↓reduceIte]
    first | exact ⟨_, .same⟩ | exact ⟨_, .same, rfl⟩ | exact ⟨_, .same, rfl, rfl⟩
  have hd : decide ((i : Int) < (l.length : Int)) = true := by rw [decide_eq_true_eq]; omega
  have hil : i < l.length := by omega
  have hat := ssv_at l i l[i] (List.getElem?_eq_getElem hil)
  have fin : ((l.length : Int) - ((i + 1 : Nat) : Int)).toNat < ((l.length : Int) - (i : Int)).toNat := by omega
  have k14 : O6 52 [.str l[i]] st (.bool (nameB l[i])) st := (by repeat first | exact Or.inr ⟨rfl, rfl, _, hm _ (List.getElem_mem hil), rfl, rfl⟩ | refine Or.inl ?_)
  simp (maxSteps := 2000000) (disch := first | omega | (simp only [List.length_append, List.length_cons, List.length_nil, List.length_map] <;> omega)) only [hd, hat, Int.toNat_natCast, flg_str, exc_str, sk_idxB, idxB_ro, swp_seq, swp_reg, swp_skip, swp_block, swp_cond, seqK_n, condK_t, evK_some, appK_eq, srun_nil, srun_cons, stepK_call, sk_mv, sk_give, sk_bin, sk_load, get_mk, raw_slot, put_some, wb_nil, ev_mv, ev_give, bin_lss, ev_loadE, ro_str, got_str, pubs, pubsFrom, List.map_cons, List.map_nil, List.getD_cons_zero, List.getD_cons_succ, List.set_cons_zero, List.set_cons_succ, List.replicate_succ, List.replicate_zero, List.cons_append, List.nil_append, Bool.false_eq_true, Option.map_some, ↓reduceIte, Nat.mul_one]
  refine callK_intro k14 ?_
  cases hn : nameB l[i] with
  | false =>
    have hf : l.all nameB = false := by
      rw [List.all_eq_false]
      exact ⟨_, List.getElem_mem hil, by rw [hn]; simp⟩
    rw [hf]
    simp (maxSteps := 2000000) (disch := first | omega | (simp only [List.length_append, List.length_cons, List.length_nil, List.length_map] <;> omega)) only [lpK_r, flg_nilS, swp_seq, swp_reg, swp_ret, swp_cond, seqK_n, seqK_r, blkK_r, condK_t, evK_some, appK_eq, appC_eq, srun_nil, srun_cons, fin_ret, sk_give, sk_un, get_mk, raw_slot, raw_lit, put_some, wb_nil, ev_give, ev_not, ro_nilS, List.map_cons, List.map_nil, List.getD_cons_zero, List.getD_cons_succ, List.set_cons_zero, List.set_cons_succ, true_and, Bool.false_eq_true, ↓reduceIte, Bool.not_false]
    first | exact ⟨_, .same⟩ | exact ⟨_, .same, rfl⟩ | exact ⟨_, .same, rfl, rfl⟩
  | true =>
    simp (maxSteps := 2000000) (disch := first | omega | (simp only [List.length_append, List.length_cons, List.length_nil, List.length_map] <;> omega)) only [lpK_n, swp_reg, swp_skip, swp_cond, seqK_n, blkK_n, condK_f, evK_some, appK_eq, appC_eq, srun_nil, srun_cons, sk_mv, sk_bin, sk_un, get_mk, raw_slot, raw_lit, put_some, wb_nil, ev_mv, ev_not, bin_add, ro_int, List.map_cons, List.map_nil, List.getD_cons_zero, List.getD_cons_succ, List.set_cons_zero, List.set_cons_succ, Bool.not_true, wrap_i64]
    refine ⟨_, ?_, ⟨i + 1, by omega, by rw [← List.take_append_getElem hil, List.all_append, hall]; simp [hn], rfl⟩, fin⟩
    refine Forget.of ?_
    repeat first | exact fg_e | refine fg_d ?_ | refine fg_k rfl ?_
def KNames : List SV → SV → Prop := fun args r => ∃ s : List UInt8, sm s ∧ args = [.str s] ∧ r = namesV s
def O7 : Orc := O6.add 48 (FnC KNames)
theorem s7 : Sound Tryd.prog O7 := s6.addP c48 (by kernel_rfl) (by
  rintro args r ⟨s, hs, rfl, rfl⟩
  exact ⟨by simp [sf48], fun st => f11 s hs st⟩)
theorem f16 (s : List UInt8) (hs : sm s) (st : List Ob) : swpF O7 sf41 [.str s] st (fun r st' => r = .bool (rightB s) ∧ st' = st) := by
  obtain ⟨q1, q2, q3, q4, q5⟩ := rdS_facts (namesV_rdS s)
  simp (maxSteps := 2000000) (disch := first | omega | (simp only [List.length_append, List.length_cons, List.length_nil, List.length_map] <;> omega)) only [sf41, flg_bool, exc_str, swp_seq, swp_reg, seqK_n, evK_some, appK_eq, srun_nil, srun_cons, stepK_call, swpF_eq, sk_mv, sk_give, get_mk, raw_slot, raw_lit, put_some, wb_nil, ev_mv, ev_give, ro_bool, ro_str, got_str, pubs, pubsFrom, List.map_cons, List.map_nil, List.getD_cons_zero, List.set_cons_zero, List.set_cons_succ, List.length_cons, List.length_nil, List.replicate_succ, List.replicate_zero, List.cons_append, List.nil_append, Nat.reduceSub, Bool.false_eq_true, ↓reduceIte, Nat.zero_add]
  refine callK_intro ((by repeat first | exact Or.inr ⟨rfl, rfl, s, hs, rfl, rfl⟩ | refine Or.inl ?_)) ?_
  rw [right_names]
  have e : decide ((0 : Int) < ((namesOf s).length : Int)) = decide (0 < (namesOf s).length) := by rw [decide_eq_decide]; omega
  simp (maxSteps := 2000000) (disch := first | omega | (simp only [List.length_append, List.length_cons, List.length_nil, List.length_map] <;> omega)) only [q5, e, flg_bool, swp_ret, seqK_n, evK_some, appK_eq, appC_eq, srun_nil, srun_cons, fin_ret, sk_give, sk_bin, sk_lenL, get_mk, raw_slot, raw_lit, put_some, wb_nil, ev_give, bin_gtr, ro_bool, List.map_cons, List.map_nil, List.getD_cons_zero, List.getD_cons_succ, List.set_cons_zero, List.set_cons_succ, true_and, Bool.false_eq_true, ↓reduceIte, gt_iff_lt]
  first | exact ⟨_, .same⟩ | exact ⟨_, .same, rfl⟩ | exact ⟨_, .same, rfl, rfl⟩
def KRight : List SV → SV → Prop := fun args r => ∃ s : List UInt8, sm s ∧ args = [.str s] ∧ r = .bool (rightB s)
def O8 : Orc := O7.add 41 (FnC KRight)
theorem s8 : Sound Tryd.prog O8 := s7.addP c41 (by kernel_rfl) (by
  rintro args r ⟨s, hs, rfl, rfl⟩
  exact ⟨by simp [sf41], fun st => f16 s hs st⟩)
/-- Names that are few and short enough to be joined. -/
def smL (l : List (List UInt8)) : Prop := l.flatten.length ≤ 134217728 ∧ l.length ≤ 134217728
theorem jn_sm {l : List (List UInt8)} (h : smL l) : sm (jn l) := by
  have := jn_len l
  unfold sm smL at *; omega
def KJoinP : List SV → SV → Prop := fun args r => ∃ v l, smL l ∧ rdS v l ∧ args = [v] ∧ r = .str (joinP l)
def O9 : Orc := O8
theorem s9 : Sound Tryd.prog O9 := s8
theorem names_smL {s : List UInt8} (hs : sm s) (n : Nat) : smL ((namesOf s).take n) := by
  have h4 : (namesOf s).length ≤ 4 := by
    unfold namesOf; split
    · rename_i h; exact h.1
    · simp
  have h12 : ∀ x ∈ namesOf s, x.length ≤ 12 := by
    intro x hx
    unfold namesOf at hx
    split at hx
    · rename_i h
      have := List.all_eq_true.1 h.2 x hx
      simp only [nameB, Bool.and_eq_true, decide_eq_true_eq] at this
      exact this.1.1.1.2
    · cases hx
  have key : ∀ l : List (List UInt8), (∀ x ∈ l, x.length ≤ 12) → l.flatten.length ≤ l.length * 12 := by
    intro l
    induction l with
    | nil => intro _; simp
    | cons a l ih =>
      intro h
      have h1 := h a List.mem_cons_self
      have h2 := ih fun x hx => h x (List.mem_cons_of_mem _ hx)
      simp only [List.flatten_cons, List.length_append, List.length_cons]; omega
  have := key ((namesOf s).take n) fun x hx => h12 x (List.mem_of_mem_take hx)
  have h5 : ((namesOf s).take n).length ≤ 4 := by rw [List.length_take]; omega
  unfold smL; omega
theorem names_le4 (s : List UInt8) : (namesOf s).length ≤ 4 := by
  unfold namesOf; split
  · rename_i h; exact h.1
  · simp
def KParent : List SV → SV → Prop := fun args r => ∃ s : List UInt8, sm s ∧ args = [.str s] ∧ r = .str (parentB s)
def O10 : Orc := O9
theorem s10 : Sound Tryd.prog O10 := s9
theorem o10_16 {s : List UInt8} (hs : sm s) (st : List Ob) : O10 41 [.str s] st (.bool (rightB s)) st := (by repeat first | exact Or.inr ⟨rfl, rfl, s, hs, rfl, rfl⟩ | refine Or.inl ?_)
def KUnder : List SV → SV → Prop := fun args r => ∃ s d : List UInt8, sm s ∧ sm d ∧ args = [.str s, .str d] ∧ r = .bool (underB s d)
def O11 : Orc := O10
theorem s11 : Sound Tryd.prog O11 := s10
def KClash : List SV → SV → Prop := fun args r => ∃ s d : List UInt8, sm s ∧ sm d ∧ args = [.str s, .str d] ∧ r = .bool (clashB s d)
def O12 : Orc := O11
theorem s12 : Sound Tryd.prog O12 := s11
end Go.Sh.F
namespace Go.Sh.F
open Go.PathLaw Go.Proofs
theorem bin_leqS {st : List Ob} {x y : List UInt8} : ev st (.bin .leq) [.str x, .str y] = some (.bool (Op.bytesLess x y || x == y), [], st) := rfl
theorem bin_gtrS {st : List Ob} {x y : List UInt8} : ev st (.bin .gtr) [.str x, .str y] = some (.bool (!(Op.bytesLess x y || x == y)), [], st) := rfl
theorem leq_lt (x y : List UInt8) : (Op.bytesLess x y || x == y) = !(lt y x) := by
  rcases lt_total x y with rfl | h | h
  · rw [show Op.bytesLess x x = lt x x from rfl, lt_irrefl]; simp
  · rw [show Op.bytesLess x y = lt x y from rfl, h, lt_asymm h]; rfl
  · rw [show Op.bytesLess x y = lt x y from rfl, h, lt_asymm h]
    have : (x == y) = false := by
      rw [beq_eq_false_iff_ne]; rintro rfl; rw [lt_irrefl] at h; cases h
    rw [this]; rfl
/-- As far as the loop has come. -/
def srtTo (l : List (List UInt8)) (i : Nat) : Prop := ∀ j (h : j < l.length), j < i → rightB l[j] = true ∧ (0 < j → lt (l[j - 1]'(by omega)) l[j] = true)
theorem srtTo_all {l : List (List UInt8)} : sortedB l = true ↔ srtTo l l.length := by
  rw [sorted_at]
  exact ⟨fun h j hj _ => h j hj, fun h j hj => h j hj hj⟩
theorem srtTo_zero (l : List (List UInt8)) : srtTo l 0 := fun j _ h => by omega
theorem srtTo_succ {l : List (List UInt8)} {i : Nat} (h : srtTo l i) (hi : i < l.length) (h1 : rightB l[i] = true) (h2 : 0 < i → lt (l[i - 1]'(by omega)) l[i] = true) : srtTo l (i + 1) := by
  intro j hj hji
  by_cases e : j = i
  · subst e; exact ⟨h1, h2⟩
  · exact h j hj (by omega)
theorem srtTo_not {l : List (List UInt8)} {i : Nat} (hi : i < l.length) (h : ¬ (rightB l[i] = true ∧ (0 < i → lt (l[i - 1]'(by omega)) l[i] = true))) : sortedB l = false := by
  cases hs : sortedB l with
  | false => rfl
  | true => exact absurd ((sorted_at l).1 hs i hi) h
def smA (l : List (List UInt8)) : Prop := (∀ x ∈ l, sm x) ∧ l.length ≤ 268435456
set_option maxHeartbeats 8000000 in
def KSorted : List SV → SV → Prop := fun args r => ∃ v l, smA l ∧ rdS v l ∧ args = [v] ∧ r = .bool (sortedB l)
def O13 : Orc := O12
theorem s13 : Sound Tryd.prog O13 := s12
set_option maxHeartbeats 8000000 in
theorem f15 (O : Orc) (s : List UInt8) (hs : sm s) (st : List Ob) : swpF O sf50 [.str s] st (fun r st' => r = .bool (nameB s) ∧ st' = st) := by
  unfold sm at hs
  have x1 : (s != [46]) = !(s == [46]) := rfl
  have x2 : (s != [46, 46]) = !(s == [46, 46]) := rfl
  by_cases h1 : 1 ≤ s.length
  case neg =>
    have d1 : decide ((s.length : Int) < 1) = true := by rw [decide_eq_true_eq]; omega
    have d2 : decide (1 ≤ s.length) = false := by simpa using h1
    simp (maxSteps := 2000000) (disch := first | omega | (simp only [List.length_append, List.length_cons, List.length_nil, List.length_map] <;> omega)) only [sf50, d1, flg_bool, swp_seq, swp_reg, swp_ret, swp_cond, seqK_n, seqK_r, condK_t, evK_some, appK_eq, grd_t, srun_nil, srun_cons, stepK_grd, fin_ret, swpF_eq, sk_mv, sk_give, sk_pick, sk_bin, sk_lenS, get_mk, raw_slot, raw_lit, put_some, wb_nil, ev_mv, ev_give, ev_pick, ev_lenS, bin_lss, ro_bool, ro_str, List.map_cons, List.map_nil, List.getD_cons_zero, List.getD_cons_succ, List.set_cons_zero, List.set_cons_succ, List.length_cons, List.length_nil, List.replicate_succ, List.replicate_zero, List.cons_append, List.nil_append, Nat.reduceSub, Bool.false_eq_true, ↓reduceIte, Nat.zero_add, reduceCtorEq]
    exact ⟨_, .same, by rw [nameB, d2]; simp, rfl⟩
  have d1 : decide ((s.length : Int) < 1) = false := by rw [decide_eq_false_iff_not]; omega
  have d2 : decide (1 ≤ s.length) = true := by simpa using h1
  by_cases h2 : s.length ≤ 12
  case neg =>
    have d3 : decide ((12 : Int) < (s.length : Int)) = true := by rw [decide_eq_true_eq]; omega
    have d4 : decide (s.length ≤ 12) = false := by simpa using h2
    simp (maxSteps := 2000000) (disch := first | omega | (simp only [List.length_append, List.length_cons, List.length_nil, List.length_map] <;> omega)) only [sf50, d1, d3, flg_bool, exc_str, swp_seq, swp_reg, swp_ret, swp_cond, seqK_n, seqK_r, condK_t, evK_some, appK_eq, grd_t, srun_nil, srun_cons, stepK_grd, fin_ret, swpF_eq, sk_mv, sk_take, sk_give, sk_pick, sk_bin, sk_lenS, get_mk, raw_slot, raw_lit, put_some, wb_nil, ev_mv, ev_take, ev_give, ev_pick, ev_lenS, bin_lss, bin_gtr, ro_bool, ro_str, got_str, List.map_cons, List.map_nil, List.getD_cons_zero, List.getD_cons_succ, List.set_cons_zero, List.set_cons_succ, List.length_cons, List.length_nil, List.replicate_succ, List.replicate_zero, List.cons_append, List.nil_append, Nat.reduceSub, Bool.false_eq_true, ↓reduceIte, Nat.zero_add, reduceCtorEq, gt_iff_lt]
    exact ⟨_, .same, by rw [nameB, d4]; simp, rfl⟩
  have d3 : decide ((12 : Int) < (s.length : Int)) = false := by rw [decide_eq_false_iff_not]; omega
  have d4 : decide (s.length ≤ 12) = true := by simpa using h2
  cases hx : (s == [46]) with
  | true =>
    simp (maxSteps := 2000000) (disch := first | omega | (simp only [List.length_append, List.length_cons, List.length_nil, List.length_map] <;> omega)) only [sf50, d1, d3, hx, flg_bool, exc_str, swp_seq, swp_reg, swp_ret, swp_cond, seqK_n, seqK_r, condK_t, evK_some, appK_eq, grd_t, srun_nil, srun_cons, stepK_grd, fin_ret, swpF_eq, sk_mv, sk_take, sk_give, sk_pick, sk_bin, sk_lenS, get_mk, raw_slot, raw_lit, put_some, wb_nil, ev_mv, ev_take, ev_give, ev_pick, ev_lenS, bin_lss, bin_gtr, bin_eqlS, ro_bool, ro_str, got_str, List.map_cons, List.map_nil, List.getD_cons_zero, List.getD_cons_succ, List.set_cons_zero, List.set_cons_succ, List.length_cons, List.length_nil, List.replicate_succ, List.replicate_zero, List.cons_append, List.nil_append, Nat.reduceSub, Bool.false_eq_true, ↓reduceIte, Nat.zero_add, reduceCtorEq, gt_iff_lt]
    exact ⟨_, .same, by rw [nameB, x1, hx]; simp, rfl⟩
  | false =>
  cases hy : (s == [46, 46]) with
  | true =>
    simp (maxSteps := 2000000) (disch := first | omega | (simp only [List.length_append, List.length_cons, List.length_nil, List.length_map] <;> omega)) only [sf50, d1, d3, hx, hy, flg_bool, exc_str, swp_seq, swp_reg, swp_ret, swp_cond, seqK_n, seqK_r, condK_t, evK_some, appK_eq, grd_t, srun_nil, srun_cons, stepK_grd, fin_ret, swpF_eq, sk_mv, sk_take, sk_give, sk_pick, sk_bin, sk_lenS, get_mk, raw_slot, raw_lit, put_some, wb_nil, ev_mv, ev_take, ev_give, ev_pick, ev_lenS, bin_lss, bin_gtr, bin_eqlS, ro_bool, ro_str, got_str, List.map_cons, List.map_nil, List.getD_cons_zero, List.getD_cons_succ, List.set_cons_zero, List.set_cons_succ, List.length_cons, List.length_nil, List.replicate_succ, List.replicate_zero, List.cons_append, List.nil_append, Nat.reduceSub, Bool.false_eq_true, ↓reduceIte, Nat.zero_add, gt_iff_lt]
    exact ⟨_, .same, by rw [nameB, x2, hy]; simp, rfl⟩
  | false =>
  have hnb : nameB s = s.all okB := by rw [nameB, d2, d4, x1, x2, hx, hy]; rfl
  simp (maxSteps := 2000000) (disch := first | omega | (simp only [List.length_append, List.length_cons, List.length_nil, List.length_map] <;> omega)) only [sf50, d1, d3, hx, hy, flg_bool, exc_int, exc_str, swp_seq, swp_reg, swp_skip, swp_block, swp_cond, seqK_n, condK_f, evK_some, appK_eq, grd_t, srun_nil, srun_cons, stepK_grd, swpF_eq, sk_mv, sk_take, sk_give, sk_pick, sk_bin, sk_lenS, get_mk, raw_slot, raw_lit, put_some, wb_nil, ev_mv, ev_take, ev_give, ev_pick, ev_lenS, bin_lss, bin_gtr, bin_eqlS, ro_bool, ro_str, got_int, got_str, List.map_cons, List.map_nil, List.getD_cons_zero, List.getD_cons_succ, List.set_cons_zero, List.set_cons_succ, List.length_cons, List.length_nil, List.replicate_succ, List.replicate_zero, List.cons_append, List.nil_append, Nat.reduceSub, Bool.false_eq_true, ↓reduceIte, Nat.zero_add, gt_iff_lt]
  refine swp_lp (fun S => ∃ (i : Nat), i ≤ s.length ∧ (s.take i).all okB = true ∧
      S = ⟨[.str s, .undef, .bool false, .int .i64 i] ++ List.replicate 49 .undef, st⟩)
      (fun S => match S.get 3 with | .int _ k => ((s.length : Int) - k).toNat | _ => 0)
      ⟨[.str s, .undef, .bool false, .int .i64 0] ++ List.replicate 49 .undef, st⟩ ?_ ⟨0, Nat.zero_le _, rfl, rfl⟩ ?_
  · refine Forget.of ?_
    repeat first | exact fg_e | refine fg_d ?_ | refine fg_k rfl ?_
  rintro S ⟨i, hi, hall, rfl⟩
  by_cases him : i = s.length
  · have hd : decide ((i : Int) < (s.length : Int)) = false := by rw [decide_eq_false_iff_not]; omega
    rw [him, List.take_length] at hall
    rw [hnb, hall]
    simp (maxSteps := 2000000) (disch := first | omega | (simp only [List.length_append, List.length_cons, List.length_nil, List.length_map] <;> omega)) only [hd, lpK_e, flg_bool, swp_seq, swp_reg, swp_ret, swp_exit, swp_cond, seqK_n, seqK_e, blkK_e, condK_f, evK_some, appK_eq, srun_nil, srun_cons, fin_ret, sk_mv, sk_give, sk_bin, sk_lenS, get_mk, raw_slot, raw_lit, put_some, wb_nil, ev_mv, ev_give, ev_lenS, bin_lss, ro_int, ro_bool, ro_str, List.map_cons, List.map_nil, List.getD_cons_zero, List.getD_cons_succ, List.set_cons_zero, List.set_cons_succ, List.replicate_succ, List.replicate_zero, List.cons_append, List.nil_append, true_and, Bool.false_eq_true, ↓reduceIte]
    first | exact ⟨_, .same⟩ | exact ⟨_, .same, rfl⟩ | exact ⟨_, .same, rfl, rfl⟩
  have hd : decide ((i : Int) < (s.length : Int)) = true := by rw [decide_eq_true_eq]; omega
  have hil : i < s.length := by omega
  have hat : s[i]? = some s[i] := List.getElem?_eq_getElem hil
  have hat2 : ∀ st, ev st .idxS [.str s, .int .i64 (i : Int)] = some (.int .u8 s[i].toNat, [], st) := fun st => by
    rw [ev_idxS (by omega), Int.toNat_natCast, hat]; rfl
  have hok : okB s[i] = (decide ((97 : Int) ≤ (s[i].toNat : Int)) && decide ((s[i].toNat : Int) ≤ 122) || decide ((48 : Int) ≤ (s[i].toNat : Int)) && decide ((s[i].toNat : Int) ≤ 57) || ((s[i].toNat : Int) == 46) || ((s[i].toNat : Int) == 45)) := by
    have e1 : decide ((97 : Int) ≤ (s[i].toNat : Int)) = decide (97 ≤ s[i].toNat) := by rw [decide_eq_decide]; omega
    have e2 : decide ((s[i].toNat : Int) ≤ 122) = decide (s[i].toNat ≤ 122) := by rw [decide_eq_decide]; omega
    have e3 : decide ((48 : Int) ≤ (s[i].toNat : Int)) = decide (48 ≤ s[i].toNat) := by rw [decide_eq_decide]; omega
    have e4 : decide ((s[i].toNat : Int) ≤ 57) = decide (s[i].toNat ≤ 57) := by rw [decide_eq_decide]; omega
    have e5 : ((s[i].toNat : Int) == 46) = (s[i] == 46) := by
      rw [Bool.eq_iff_iff, beq_iff_eq, beq_iff_eq, ← UInt8.toNat_inj]
      show (s[i].toNat : Int) = 46 ↔ s[i].toNat = 46
      omega
    have e6 : ((s[i].toNat : Int) == 45) = (s[i] == 45) := by
      rw [Bool.eq_iff_iff, beq_iff_eq, beq_iff_eq, ← UInt8.toNat_inj]
      show (s[i].toNat : Int) = 45 ↔ s[i].toNat = 45
      omega
    rw [e1, e2, e3, e4, e5, e6, okB]
  have hbad : okB s[i] = false → s.all okB = false := fun h => by
    rw [List.all_eq_false]
    exact ⟨s[i], List.getElem_mem hil, by rw [h]; simp⟩
  have hgood : okB s[i] = true → (s.take (i + 1)).all okB = true := fun h => by rw [all_take_succ hil, hall, h]; rfl
  have fin : ((s.length : Int) - ((i + 1 : Nat) : Int)).toNat < ((s.length : Int) - (i : Int)).toNat := by omega
  obtain ⟨b1, hb1⟩ : ∃ b, decide ((97 : Int) ≤ (s[i].toNat : Int)) = b := ⟨_, rfl⟩
  obtain ⟨b2, hb2⟩ : ∃ b, decide ((s[i].toNat : Int) ≤ 122) = b := ⟨_, rfl⟩
  obtain ⟨b3, hb3⟩ : ∃ b, decide ((48 : Int) ≤ (s[i].toNat : Int)) = b := ⟨_, rfl⟩
  obtain ⟨b4, hb4⟩ : ∃ b, decide ((s[i].toNat : Int) ≤ 57) = b := ⟨_, rfl⟩
  obtain ⟨b5, hb5⟩ : ∃ b, ((s[i].toNat : Int) == 46) = b := ⟨_, rfl⟩
  obtain ⟨b6, hb6⟩ : ∃ b, ((s[i].toNat : Int) == 45) = b := ⟨_, rfl⟩
  rw [hb1, hb2, hb3, hb4, hb5, hb6] at hok
  rw [hnb]
  cases b1 <;> cases b2 <;> cases b3 <;> cases b4
  all_goals
    cases b5 <;> cases b6
    all_goals
      simp only [Bool.and_true, Bool.and_false, Bool.or_true, Bool.or_false] at hok
      simp (maxSteps := 2000000) (disch := first | omega | (simp only [List.length_append, List.length_cons, List.length_nil, List.length_map] <;> omega)) only [hd, hat2, hb1, hb2, hb3, hb4, hb5, hb6, lpK_n, lpK_r, flg_bool, flg_int, exc_bool, exc_int, grd_s, swp_seq, swp_reg, swp_skip, swp_ret, swp_block, swp_cond, seqK_n, seqK_r, blkK_n, blkK_r, condK_t, condK_f, evK_some, appK_eq, grd_t, srun_nil, srun_cons, stepK_grd, fin_ret, sk_mv, sk_take, sk_give, sk_pick, sk_bin, sk_un, sk_idxS, sk_lenS, get_mk, raw_slot, raw_lit, put_some, wb_nil, ev_mv, ev_take, ev_give, ev_pick, ev_not, ev_lenS, bin_add, bin_eql, bin_lss, bin_leq, bin_geq, ro_int, ro_bool, ro_str, got_int, got_bool, List.map_cons, List.map_nil, List.getD_cons_zero, List.getD_cons_succ, List.set_cons_zero, List.set_cons_succ, List.replicate_succ, List.replicate_zero, List.cons_append, List.nil_append, Bool.false_eq_true, ↓reduceIte, reduceCtorEq, Bool.not_true, Bool.not_false, ge_iff_le, wrap_i64]
      first
        | (rw [hbad hok]
           first | exact ⟨_, .same⟩ | exact ⟨_, .same, rfl⟩ | exact ⟨_, .same, rfl, rfl⟩)
        | (refine ⟨_, ?_, ⟨i + 1, by omega, hgood hok, rfl⟩, fin⟩
           refine Forget.of ?_
           repeat first | exact fg_e | refine fg_d ?_ | refine fg_k rfl ?_)
def O14 : Orc := O13.add 50 (FnC KName)
theorem s14 : Sound Tryd.prog O14 := s13.addP c50 (by kernel_rfl) (by
  rintro args r ⟨s, hs, rfl, rfl⟩
  exact ⟨by simp [sf50], fun st => f15 _ s hs st⟩)
end Go.Sh.F
namespace Go.Sh.F
open Go.PathLaw Go.Proofs
set_option maxHeartbeats 8000000 in
theorem f28 (O : Orc) (s : List UInt8) (hs : sm s) (st : List Ob) : swpF O sf49 [.str s] st (fun r st' => r = .sl (ssv (spl s)) (spl s).length (.excl 1) ∧ st' = st) := by
  unfold sm at hs
  have hll := spl_length_le s
  simp (maxSteps := 2000000) (disch := first | omega | (simp only [List.length_append, List.length_cons, List.length_nil, List.length_map] <;> omega)) only [sf49, flg_nilS, exc_int, exc_nilS, swp_seq, swp_reg, swp_block, seqK_n, evK_some, appK_eq, srun_nil, srun_cons, swpF_eq, sk_take, sk_give, raw_lit, put_some, wb_nil, ev_take, ev_give, ro_nilS, got_int, got_nilS, List.map_cons, List.map_nil, List.set_cons_zero, List.set_cons_succ, List.length_cons, List.length_nil, List.replicate_succ, List.replicate_zero, List.cons_append, List.nil_append, Nat.reduceSub, Bool.false_eq_true, ↓reduceIte, Nat.zero_add]
  refine swp_lp (fun S => ∃ (i from_ : Nat) (pre : List (List UInt8)), pre.length ≤ i ∧ ((i ≤ s.length ∧ from_ ≤ i ∧ (47 : UInt8) ∉ (s.take i).drop from_ ∧ spl s = pre ++ spl (s.drop from_)) ∨ (i = s.length + 1 ∧ pre = spl s)) ∧
      S = ⟨[.str s, .undef, .nilS, rowV pre, .int .i64 from_, .int .i64 i] ++ List.replicate 26 .undef, st⟩)
      (fun S => match S.get 5 with | .int _ k => ((s.length : Int) + 1 - k).toNat | _ => 0)
      ⟨[.str s, .undef, .nilS, rowV [], .int .i64 0, .int .i64 0] ++ List.replicate 26 .undef, st⟩ ?_ ⟨0, 0, [], Nat.zero_le _, .inl ⟨Nat.zero_le _, Nat.le_refl _, by simp, rfl⟩, rfl⟩ ?_
  · refine Forget.of ?_
    repeat first | exact fg_e | refine fg_d ?_ | refine fg_k rfl ?_
  rintro S ⟨i, from_, pre, hpl, hcase, rfl⟩
  rcases hcase with ⟨hi, hfi, hno, hspl⟩ | ⟨rfl, rfl⟩
  case inr =>
    have hd : decide (((s.length + 1 : Nat) : Int) ≤ (s.length : Int)) = false := by rw [decide_eq_false_iff_not]; omega
    rw [rowV_ne (spl_ne s)]
    simp (maxSteps := 2000000) (disch := first | omega | (simp only [List.length_append, List.length_cons, List.length_nil, List.length_map] <;> omega)) only [hd, lpK_e, flg_excl, swp_seq, swp_reg, swp_ret, swp_exit, swp_cond, seqK_n, seqK_e, blkK_e, condK_f, evK_some, appK_eq, srun_nil, srun_cons, fin_ret, sk_mv, sk_give, sk_bin, sk_lenS, get_mk, raw_slot, put_some, wb_nil, wb_cons, ev_mv, ev_give, ev_lenS, bin_leq, ro_int, ro_str, ro_excl, List.map_cons, List.map_nil, List.getD_cons_zero, List.getD_cons_succ, List.set_cons_zero, List.set_cons_succ, List.getElem?_cons_zero, List.replicate_succ, List.replicate_zero, List.cons_append, List.nil_append, true_and, ↓reduceIte]
    first | exact ⟨_, .same⟩ | exact ⟨_, .same, rfl⟩ | exact ⟨_, .same, rfl, rfl⟩
  have hd : decide ((i : Int) ≤ (s.length : Int)) = true := by rw [decide_eq_true_eq]; omega
  have fin : ((s.length : Int) + 1 - ((i + 1 : Nat) : Int)).toNat < ((s.length : Int) + 1 - (i : Int)).toNat := by omega
  have hsc : ∀ st, ev st (.slcS true true) [.str s, .int .i64 (from_ : Int), .int .i64 (i : Int)] = some (.str ((s.take i).drop from_), [], st) := fun st => by
    rw [slcS_both (by omega) (by omega) (by omega)]; rfl
  have hdrop : s.drop from_ = (s.take i).drop from_ ++ s.drop i := by
    conv => lhs; rw [← List.take_append_drop i s]
    rw [List.drop_append_of_le_length (by rw [List.length_take]; omega)]
  generalize hcur : (s.take i).drop from_ = cur at *
  have happ : ∀ st, ev st (.app 1 16 [.str []]) [rowV pre, .sl [.str cur] 1 (.excl 1)] = some (rowV (pre ++ [cur]), if pre = [] then [] else [(0, .undef)], st) := by
    intro st
    by_cases hp : pre = []
    · subst hp
      rw [if_pos rfl, rowV_nil, app_nil (by simp) (by omega) (by omega) (by omega)]; rfl
    · rw [if_neg hp, rowV_ne hp, app_excl (by rw [ssv_len]; omega) (by simp) (by omega) (by omega), rowV_app]
  have hflg : flg (rowV (pre ++ [cur])) = true ∧ ro (rowV (pre ++ [cur])) = .undef ∧ exc (rowV (pre ++ [cur])) = true ∧ pub (rowV (pre ++ [cur])) = .sl (ssv pre ++ [.str cur]) (pre.length + 1) (.own 1) := by
    rw [rowV_app]; exact ⟨rfl, rfl, rfl, rfl⟩
  by_cases him : i = s.length
  · have d1 : ((i : Int) == (s.length : Int)) = true := by simp [him]
    have hfin : pre ++ [cur] = spl s := by
      rw [hspl, hdrop, him, List.drop_length, List.append_nil, spl_plain cur hno]
    by_cases hp : pre = []
    · subst hp
      rw [rowV_nil]
      rw [rowV_nil, if_pos rfl] at happ
      simp only [List.nil_append] at happ hflg
      simp (maxSteps := 2000000) (disch := first | omega | (simp only [List.length_append, List.length_cons, List.length_nil, List.length_map] <;> omega)) only [hd, d1, hsc, happ, hflg.1, hflg.2.1, lpK_n, flg_int, exc_str, swp_seq, swp_reg, swp_skip, swp_block, swp_cond, seqK_n, blkK_n, condK_t, evK_some, appK_eq, grd_t, srun_nil, srun_cons, stepK_grd, sk_mv, sk_give, sk_pick, sk_bin, sk_lenS, sk_slcS, sk_bsl, sk_app, get_mk, raw_slot, raw_lit, put_some, wb_nil, wb_cons, ev_mv, ev_give, ev_pick, ev_lenS, bin_add, bin_eql, bin_leq, ev_bsl, ro_int, ro_bool, ro_str, ro_nilS, got_str, pubs, pubsFrom, List.map_cons, List.map_nil, List.getD_cons_zero, List.getD_cons_succ, List.set_cons_zero, List.set_cons_succ, List.getElem?_cons_zero, List.length_cons, List.length_nil, List.replicate_succ, List.replicate_zero, List.cons_append, List.nil_append, Nat.reduceLT, and_true, Bool.false_eq_true, Option.map_some, ↓reduceIte, List.all_cons, List.all_nil, Bool.and_self, List.zip_cons_cons, List.zip_nil_right, rep, fillV, wrCells, cellsV, isCell, List.flatten_cons, List.flatten_nil, List.append_nil, decide_true, Nat.mul_one, Nat.zero_add, reduceCtorEq, wrap_i64, Nat.le_refl]
      refine ⟨⟨[.str s, .undef, .nilS, rowV [cur], .int .i64 ((i + 1 : Nat) : Int), .int .i64 ((i + 1 : Nat) : Int)] ++ List.replicate 26 .undef, st⟩, ?_, ⟨i + 1, i + 1, [cur], by simp, .inr ⟨by omega, hfin⟩, rfl⟩, by exact fin⟩
      refine Forget.of ?_
      repeat first | exact fg_e | refine fg_d ?_ | refine fg_k rfl ?_
    · rw [rowV_ne hp]
      rw [rowV_ne hp, if_neg hp] at happ
      simp (maxSteps := 2000000) (disch := first | omega | (simp only [List.length_append, List.length_cons, List.length_nil, List.length_map] <;> omega)) only [hd, d1, hsc, happ, hflg.1, hflg.2.1, lpK_n, flg_int, exc_str, swp_seq, swp_reg, swp_skip, swp_block, swp_cond, seqK_n, blkK_n, condK_t, evK_some, appK_eq, grd_t, srun_nil, srun_cons, stepK_grd, sk_mv, sk_give, sk_pick, sk_bin, sk_lenS, sk_slcS, sk_bsl, sk_app, get_mk, raw_slot, raw_lit, put_some, wb_nil, wb_cons, ev_mv, ev_give, ev_pick, ev_lenS, bin_add, bin_eql, bin_leq, ev_bsl, ro_int, ro_bool, ro_str, ro_excl, got_str, pubs, pubsFrom, List.map_cons, List.map_nil, List.getD_cons_zero, List.getD_cons_succ, List.set_cons_zero, List.set_cons_succ, List.getElem?_cons_zero, List.length_cons, List.length_nil, List.replicate_succ, List.replicate_zero, List.cons_append, List.nil_append, Nat.reduceLT, and_true, Bool.false_eq_true, Option.map_some, ↓reduceIte, List.all_cons, List.all_nil, Bool.and_self, List.zip_cons_cons, List.zip_nil_right, rep, fillV, wrCells, cellsV, isCell, List.flatten_cons, List.flatten_nil, List.append_nil, decide_true, Nat.mul_one, Nat.zero_add, reduceCtorEq, wrap_i64, Nat.le_refl]
      refine ⟨⟨[.str s, .undef, .nilS, rowV (pre ++ [cur]), .int .i64 ((i + 1 : Nat) : Int), .int .i64 ((i + 1 : Nat) : Int)] ++ List.replicate 26 .undef, st⟩, ?_, ⟨i + 1, i + 1, pre ++ [cur], by simp; omega, .inr ⟨by omega, hfin⟩, rfl⟩, by exact fin⟩
      refine Forget.of ?_
      repeat first | exact fg_e | refine fg_d ?_ | refine fg_k rfl ?_
  have d1 : ((i : Int) == (s.length : Int)) = false := by simp; omega
  have hil : i < s.length := by omega
  have hat2 : ∀ st, ev st .idxS [.str s, .int .i64 (i : Int)] = some (.int .u8 s[i].toNat, [], st) := fun st => by
    rw [ev_idxS (by omega), Int.toNat_natCast, List.getElem?_eq_getElem hil]; rfl
  have hdi : s.drop i = s[i] :: s.drop (i + 1) := List.drop_eq_getElem_cons hil
  by_cases h47 : s[i] = 47
  · have d2 : ((s[i].toNat : Int) == 47) = true := by rw [h47]; rfl
    have hnew : spl s = (pre ++ [cur]) ++ spl (s.drop (i + 1)) := by
      rw [hspl, hdrop, hdi, h47, spl_app cur _ hno]; simp
    have hempty : (47 : UInt8) ∉ (s.take (i + 1)).drop (i + 1) := by
      rw [List.drop_of_length_le (by rw [List.length_take]; omega)]; simp
    by_cases hp : pre = []
    · subst hp
      rw [rowV_nil]
      rw [rowV_nil, if_pos rfl] at happ
      simp only [List.nil_append] at happ hflg
      simp (maxSteps := 2000000) (disch := first | omega | (simp only [List.length_append, List.length_cons, List.length_nil, List.length_map] <;> omega)) only [hd, d1, d2, hat2, hsc, happ, hflg.1, hflg.2.1, lpK_n, flg_int, exc_int, exc_str, swp_seq, swp_reg, swp_skip, swp_block, swp_cond, seqK_n, blkK_n, condK_t, evK_some, appK_eq, grd_t, srun_nil, srun_cons, stepK_grd, sk_mv, sk_take, sk_give, sk_pick, sk_bin, sk_idxS, sk_lenS, sk_slcS, sk_bsl, sk_app, get_mk, raw_slot, raw_lit, put_some, wb_nil, wb_cons, ev_mv, ev_take, ev_give, ev_pick, ev_lenS, bin_add, bin_eql, bin_leq, ev_bsl, ro_int, ro_bool, ro_str, ro_nilS, got_int, got_str, pubs, pubsFrom, List.map_cons, List.map_nil, List.getD_cons_zero, List.getD_cons_succ, List.set_cons_zero, List.set_cons_succ, List.getElem?_cons_zero, List.length_cons, List.length_nil, List.replicate_succ, List.replicate_zero, List.cons_append, List.nil_append, Nat.reduceLT, and_true, Bool.false_eq_true, Option.map_some, ↓reduceIte, List.all_cons, List.all_nil, Bool.and_self, List.zip_cons_cons, List.zip_nil_right, rep, fillV, wrCells, cellsV, isCell, List.flatten_cons, List.flatten_nil, List.append_nil, decide_true, Nat.mul_one, Nat.zero_add, wrap_i64, Nat.le_refl]
      refine ⟨⟨[.str s, .undef, .nilS, rowV [cur], .int .i64 ((i + 1 : Nat) : Int), .int .i64 ((i + 1 : Nat) : Int)] ++ List.replicate 26 .undef, st⟩, ?_, ⟨i + 1, i + 1, [cur], by simp, .inl ⟨by omega, Nat.le_refl _, hempty, hnew⟩, rfl⟩, by exact fin⟩
      refine Forget.of ?_
      repeat first | exact fg_e | refine fg_d ?_ | refine fg_k rfl ?_
    · rw [rowV_ne hp]
      rw [rowV_ne hp, if_neg hp] at happ
      simp (maxSteps := 2000000) (disch := first | omega | (simp only [List.length_append, List.length_cons, List.length_nil, List.length_map] <;> omega)) only [hd, d1, d2, hat2, hsc, happ, hflg.1, hflg.2.1, lpK_n, flg_int, exc_int, exc_str, swp_seq, swp_reg, swp_skip, swp_block, swp_cond, seqK_n, blkK_n, condK_t, evK_some, appK_eq, grd_t, srun_nil, srun_cons, stepK_grd, sk_mv, sk_take, sk_give, sk_pick, sk_bin, sk_idxS, sk_lenS, sk_slcS, sk_bsl, sk_app, get_mk, raw_slot, raw_lit, put_some, wb_nil, wb_cons, ev_mv, ev_take, ev_give, ev_pick, ev_lenS, bin_add, bin_eql, bin_leq, ev_bsl, ro_int, ro_bool, ro_str, ro_excl, got_int, got_str, pubs, pubsFrom, List.map_cons, List.map_nil, List.getD_cons_zero, List.getD_cons_succ, List.set_cons_zero, List.set_cons_succ, List.getElem?_cons_zero, List.length_cons, List.length_nil, List.replicate_succ, List.replicate_zero, List.cons_append, List.nil_append, Nat.reduceLT, and_true, Bool.false_eq_true, Option.map_some, ↓reduceIte, List.all_cons, List.all_nil, Bool.and_self, List.zip_cons_cons, List.zip_nil_right, rep, fillV, wrCells, cellsV, isCell, List.flatten_cons, List.flatten_nil, List.append_nil, decide_true, Nat.mul_one, Nat.zero_add, wrap_i64, Nat.le_refl]
      refine ⟨⟨[.str s, .undef, .nilS, rowV (pre ++ [cur]), .int .i64 ((i + 1 : Nat) : Int), .int .i64 ((i + 1 : Nat) : Int)] ++ List.replicate 26 .undef, st⟩, ?_, ⟨i + 1, i + 1, pre ++ [cur], by simp; omega, .inl ⟨by omega, Nat.le_refl _, hempty, hnew⟩, rfl⟩, by exact fin⟩
      refine Forget.of ?_
      repeat first | exact fg_e | refine fg_d ?_ | refine fg_k rfl ?_
  · have d2 : ((s[i].toNat : Int) == 47) = false := by
      rw [beq_eq_false_iff_ne]
      intro h
      refine h47 (UInt8.toNat_inj.1 ?_)
      show s[i].toNat = 47
      omega
    have hno2 : (47 : UInt8) ∉ (s.take (i + 1)).drop from_ := by
      rw [← List.take_append_getElem hil, List.drop_append_of_le_length (by rw [List.length_take]; omega), hcur]
      intro h
      rcases List.mem_append.1 h with h | h
      · exact hno h
      · simp at h; exact h47 h.symm
    simp (maxSteps := 2000000) (disch := first | omega | (simp only [List.length_append, List.length_cons, List.length_nil, List.length_map] <;> omega)) only [hd, d1, d2, hat2, lpK_n, flg_int, exc_int, exc_str, swp_seq, swp_reg, swp_skip, swp_block, swp_cond, seqK_n, blkK_n, condK_t, condK_f, evK_some, appK_eq, grd_t, srun_nil, srun_cons, stepK_grd, sk_mv, sk_take, sk_give, sk_pick, sk_bin, sk_idxS, sk_lenS, get_mk, raw_slot, raw_lit, put_some, wb_nil, ev_mv, ev_take, ev_give, ev_pick, ev_lenS, bin_add, bin_eql, bin_leq, ro_int, ro_bool, ro_str, got_int, got_str, List.map_cons, List.map_nil, List.getD_cons_zero, List.getD_cons_succ, List.set_cons_zero, List.set_cons_succ, List.replicate_succ, List.replicate_zero, List.cons_append, List.nil_append, Bool.false_eq_true, ↓reduceIte, wrap_i64]
    refine ⟨⟨[.str s, .undef, .nilS, rowV pre, .int .i64 from_, .int .i64 ((i + 1 : Nat) : Int)] ++ List.replicate 26 .undef, st⟩, ?_, ⟨i + 1, from_, pre, by omega, .inl ⟨by omega, by omega, hno2, hspl⟩, rfl⟩, by exact fin⟩
    refine Forget.of ?_
    repeat first | exact fg_e | refine fg_d ?_ | refine fg_k rfl ?_
end Go.Sh.F
namespace Go.Sh.F
open Go.PathLaw Go.Proofs
def KCut : List SV → SV → Prop := fun args r => ∃ s : List UInt8, sm s ∧ args = [.str s] ∧ r = .sl (ssv (spl s)) (spl s).length (.excl 1)
def O15 : Orc := O14.add 49 (FnC KCut)
theorem s15 : Sound Tryd.prog O15 := s14.addP c49 (by kernel_rfl) (by
  rintro args r ⟨s, hs, rfl, rfl⟩
  exact ⟨by simp [sf49], fun st => f28 _ s hs st⟩)
set_option maxHeartbeats 8000000 in
theorem f17 (s : List UInt8) (hs : sm s) (st : List Ob) : swpF O15 sf44 [.str s] st (fun r st' => r = .bool (rightB s) ∧ st' = st) := by
  have hll := spl_length_le s
  simp (maxSteps := 2000000) (disch := first | omega | (simp only [List.length_append, List.length_cons, List.length_nil, List.length_map] <;> omega)) only [sf44, flg_bool, exc_str, swp_seq, swp_reg, seqK_n, evK_some, appK_eq, srun_nil, srun_cons, stepK_call, swpF_eq, sk_mv, sk_give, get_mk, raw_slot, raw_lit, put_some, wb_nil, ev_mv, ev_give, ro_bool, ro_str, got_str, pubs, pubsFrom, List.map_cons, List.map_nil, List.getD_cons_zero, List.set_cons_zero, List.set_cons_succ, List.length_cons, List.length_nil, List.replicate_succ, List.replicate_zero, List.cons_append, List.nil_append, Nat.reduceSub, Bool.false_eq_true, ↓reduceIte, Nat.zero_add]
  refine callK_intro ((by repeat first | exact Or.inr ⟨rfl, rfl, s, hs, rfl, rfl⟩ | refine Or.inl ?_)) ?_
  by_cases h4 : (spl s).length ≤ 4
  case neg =>
    have d1 : decide ((4 : Int) < ((spl s).length : Int)) = true := by rw [decide_eq_true_eq]; omega
    have hr : rightB s = false := by rw [rightB, decide_eq_false h4]; rfl
    rw [hr]
    simp (maxSteps := 2000000) (disch := first | omega | (simp only [List.length_append, List.length_cons, List.length_nil, List.length_map] <;> omega)) only [d1, flg_bool, flg_excl, swp_seq, swp_reg, swp_ret, swp_cond, seqK_n, seqK_r, condK_t, evK_some, appK_eq, appC_eq, srun_nil, srun_cons, fin_ret, sk_mv, sk_give, sk_bin, sk_lenL, get_mk, raw_slot, raw_lit, put_some, wb_nil, wb_cons, ev_mv, ev_give, ev_lenL, bin_gtr, ro_bool, ro_excl, List.map_cons, List.map_nil, List.getD_cons_zero, List.getD_cons_succ, List.set_cons_zero, List.set_cons_succ, List.getElem?_cons_zero, true_and, Bool.false_eq_true, ↓reduceIte, gt_iff_lt]
    first | exact ⟨_, .same⟩ | exact ⟨_, .same, rfl⟩ | exact ⟨_, .same, rfl, rfl⟩
  have d1 : decide ((4 : Int) < ((spl s).length : Int)) = false := by rw [decide_eq_false_iff_not]; omega
  have hr : rightB s = (spl s).all nameB := by rw [rightB, decide_eq_true h4, Bool.true_and]
  have hm : ∀ x ∈ spl s, sm x := fun x hx => spl_sm hs hx
  rw [hr]
  generalize spl s = l at *
  have hsl := ssv_len l
  simp (maxSteps := 2000000) (disch := first | omega | (simp only [List.length_append, List.length_cons, List.length_nil, List.length_map] <;> omega)) only [d1, flg_excl, exc_int, swp_seq, swp_reg, swp_skip, swp_block, swp_cond, seqK_n, condK_f, evK_some, appK_eq, appC_eq, srun_nil, srun_cons, sk_mv, sk_take, sk_give, sk_bin, sk_lenL, get_mk, raw_slot, raw_lit, put_some, wb_nil, wb_cons, ev_mv, ev_take, ev_give, ev_lenL, bin_gtr, ro_excl, got_int, List.map_cons, List.map_nil, List.getD_cons_zero, List.getD_cons_succ, List.set_cons_zero, List.set_cons_succ, List.getElem?_cons_zero, Bool.false_eq_true, ↓reduceIte, gt_iff_lt]
  refine swp_lp (fun S => ∃ (i : Nat) (fl : Fl), i ≤ l.length ∧ (fl = .excl 1 ∨ fl = .own 1) ∧ (l.take i).all nameB = true ∧
      S = ⟨[.str s, .undef, .bool false, .sl (ssv l) l.length fl, .int .i64 i] ++ List.replicate 17 .undef, st⟩)
      (fun S => match S.get 4 with | .int _ k => ((l.length : Int) - k).toNat | _ => 0)
      ⟨[.str s, .undef, .bool false, .sl (ssv l) l.length (.excl 1), .int .i64 0] ++ List.replicate 17 .undef, st⟩ ?_ ⟨0, .excl 1, Nat.zero_le _, .inl rfl, rfl, rfl⟩ ?_
  · refine Forget.of ?_
    repeat first | exact fg_e | refine fg_d ?_ | refine fg_k rfl ?_
  rintro S ⟨i, fl, hi, hfl, hall, rfl⟩
  by_cases him : i = l.length
  · have hd : decide ((i : Int) < (l.length : Int)) = false := by rw [decide_eq_false_iff_not]; omega
    rw [him, List.take_length] at hall
    rw [hall]
    rcases hfl with rfl | rfl
    · simp (maxSteps := 2000000) (disch := first | omega | (simp only [List.length_append, List.length_cons, List.length_nil, List.length_map] <;> omega)) only [hd, lpK_e, flg_bool, swp_seq, swp_reg, swp_ret, swp_exit, swp_cond, seqK_n, seqK_e, blkK_e, condK_f, evK_some, appK_eq, srun_nil, srun_cons, fin_ret, sk_mv, sk_give, sk_bin, sk_lenL, get_mk, raw_slot, raw_lit, put_some, wb_nil, ev_mv, ev_give, ev_lenL, bin_lss, ro_int, ro_bool, ro_excl, List.map_cons, List.map_nil, List.getD_cons_zero, List.getD_cons_succ, List.set_cons_zero, List.set_cons_succ, List.replicate_succ, List.replicate_zero, List.cons_append, List.nil_append, true_and, Bool.false_eq_true, ↓reduceIte]
      first | exact ⟨_, .same⟩ | exact ⟨_, .same, rfl⟩ | exact ⟨_, .same, rfl, rfl⟩
    · simp (maxSteps := 2000000) (disch := first | omega | (simp only [List.length_append, List.length_cons, List.length_nil, List.length_map] <;> omega)) only [hd, lpK_e, flg_bool, swp_seq, swp_reg, swp_ret, swp_exit, swp_cond, seqK_n, seqK_e, blkK_e, condK_f, evK_some, appK_eq, srun_nil, srun_cons, fin_ret, sk_mv, sk_give, sk_bin, sk_lenL, get_mk, raw_slot, raw_lit, put_some, wb_nil, ev_mv, ev_give, ev_lenL, bin_lss, ro_int, ro_bool, ro_own, List.map_cons, List.map_nil, List.getD_cons_zero, List.getD_cons_succ, List.set_cons_zero, List.set_cons_succ, List.replicate_succ, List.replicate_zero, List.cons_append, List.nil_append, true_and, Bool.false_eq_true, ↓reduceIte]
      first | exact ⟨_, .same⟩ | exact ⟨_, .same, rfl⟩ | exact ⟨_, .same, rfl, rfl⟩
  have hd : decide ((i : Int) < (l.length : Int)) = true := by rw [decide_eq_true_eq]; omega
  have hil : i < l.length := by omega
  have hat := ssv_at l i l[i] (List.getElem?_eq_getElem hil)
  have fin : ((l.length : Int) - ((i + 1 : Nat) : Int)).toNat < ((l.length : Int) - (i : Int)).toNat := by omega
  have k14 : O15 50 [.str l[i]] st (.bool (nameB l[i])) st := (by repeat first | exact Or.inr ⟨rfl, rfl, _, hm _ (List.getElem_mem hil), rfl, rfl⟩ | refine Or.inl ?_)
  rcases hfl with rfl | rfl
  all_goals
    simp (maxSteps := 2000000) (disch := first | omega | (simp only [List.length_append, List.length_cons, List.length_nil, List.length_map] <;> omega)) only [hd, hat, Int.toNat_natCast, exc_str, sk_idxB, idxB_own, idxB_excl, swp_seq, swp_reg, swp_skip, swp_block, swp_cond, seqK_n, condK_t, evK_some, appK_eq, srun_nil, srun_cons, stepK_call, sk_mv, sk_bin, sk_load, sk_lenL, get_mk, raw_slot, put_some, wb_nil, wb_cons, ev_mv, ev_lenL, bin_lss, ev_loadE, ro_int, ro_str, ro_own, ro_excl, got_str, pubs, pubsFrom, List.map_cons, List.map_nil, List.getD_cons_zero, List.getD_cons_succ, List.set_cons_zero, List.set_cons_succ, List.getElem?_cons_zero, List.replicate_succ, List.replicate_zero, List.cons_append, List.nil_append, Bool.false_eq_true, Option.map_some, ↓reduceIte, Nat.mul_one]
    refine callK_intro k14 ?_
    cases hn : nameB l[i] with
    | false =>
      have hf : l.all nameB = false := by
        rw [List.all_eq_false]
        exact ⟨_, List.getElem_mem hil, by rw [hn]; simp⟩
      rw [hf]
      simp (maxSteps := 2000000) (disch := first | omega | (simp only [List.length_append, List.length_cons, List.length_nil, List.length_map] <;> omega)) only [lpK_r, flg_bool, swp_seq, swp_reg, swp_ret, swp_cond, seqK_n, seqK_r, blkK_r, condK_t, evK_some, appK_eq, appC_eq, srun_nil, srun_cons, fin_ret, sk_give, sk_un, get_mk, raw_slot, raw_lit, put_some, wb_nil, ev_give, ev_not, ro_bool, List.map_cons, List.map_nil, List.getD_cons_zero, List.getD_cons_succ, List.set_cons_zero, List.set_cons_succ, true_and, Bool.false_eq_true, ↓reduceIte, Bool.not_false]
      first | exact ⟨_, .same⟩ | exact ⟨_, .same, rfl⟩ | exact ⟨_, .same, rfl, rfl⟩
    | true =>
      simp (maxSteps := 2000000) (disch := first | omega | (simp only [List.length_append, List.length_cons, List.length_nil, List.length_map] <;> omega)) only [lpK_n, flg_int, swp_reg, swp_skip, swp_cond, seqK_n, blkK_n, condK_f, evK_some, appK_eq, appC_eq, srun_nil, srun_cons, sk_mv, sk_give, sk_bin, sk_un, get_mk, raw_slot, raw_lit, put_some, wb_nil, ev_mv, ev_give, ev_not, bin_add, ro_int, List.map_cons, List.map_nil, List.getD_cons_zero, List.getD_cons_succ, List.set_cons_zero, List.set_cons_succ, Bool.false_eq_true, ↓reduceIte, Bool.not_true, wrap_i64]
      refine ⟨_, ?_, ⟨i + 1, .own 1, by omega, .inr rfl, by rw [← List.take_append_getElem hil, List.all_append, hall]; simp [hn], rfl⟩, by exact fin⟩
      refine Forget.of ?_
      repeat first | exact fg_e | refine fg_d ?_ | refine fg_k rfl ?_
def O16 : Orc := O15.add 44 (FnC KRight)
theorem s16 : Sound Tryd.prog O16 := s15.addP c44 (by kernel_rfl) (by
  rintro args r ⟨s, hs, rfl, rfl⟩
  exact ⟨by simp [sf44], fun st => f17 s hs st⟩)
def namesW (s : List UInt8) : SV := if rightB s = true then .sl (ssv (spl s)) (spl s).length (.excl 1) else .nilS
def KNamesW : List SV → SV → Prop := fun args r => ∃ s : List UInt8, sm s ∧ args = [.str s] ∧ r = namesW s
def O17 : Orc := O16
theorem s17 : Sound Tryd.prog O17 := s16
theorem jn_succ (l : List (List UInt8)) (i : Nat) (hi : i < l.length) : jn (l.take (i + 1)) = if 0 < i then jn (l.take i) ++ [47] ++ l[i] else l[i] := by
  rw [← List.take_append_getElem hi]
  by_cases h : 0 < i
  · have hne : l.take i ≠ [] := by
      intro e
      have := congrArg List.length e
      rw [List.length_take, List.length_nil] at this
      omega
    rw [if_pos h, jn_snoc hne]; simp
  · rw [if_neg h]
    generalize l[i] = x
    rw [show i = 0 by omega]; rfl
theorem fine_five {l : List (List UInt8)} (h : (l.take 5).all nameB = true) : fineL l = fineL (l.take 5) := by
  unfold fineL
  rw [List.length_take]
  by_cases h4 : l.length ≤ 4
  · rw [List.take_of_length_le (by omega), Nat.min_eq_right (by omega)]
  · rw [decide_eq_false h4, decide_eq_false (by omega : ¬ min 5 l.length ≤ 4)]; simp
theorem right_jn {l : List (List UInt8)} (h : l.all nameB = true) : rightB (jn l) = fineL l := by
  cases l with
  | nil => decide
  | cons x r =>
    rw [right_fine, spl_jn (x :: r) (by simp) (fun y hy => name_no (List.all_eq_true.1 h y hy))]
set_option maxHeartbeats 8000000 in
def O18 : Orc := O17
theorem s18 : Sound Tryd.prog O18 := s17
end Go.Sh.F
namespace Go.Sh.F
open Go.PathLaw Go.Proofs
theorem slcL_hi_excl {st : List Ob} {xs : List SV} {n es e : Nat} {k : IntKind} {b : Int} (h0 : 0 ≤ b) (h1 : b ≤ n) (h2 : xs.length = n * es) : ev st (.slcL es false true false) [.sl xs n (.excl e), .int k b] = some (.sl (xs.take (b.toNat * es)) b.toNat .ro, [(0, .sl xs n (.own e))], st) := by
  simp [ev_slcL, slcV, intOfV, h0, h1, h2, exc, pub]
def O19 : Orc := O18
theorem s19 : Sound Tryd.prog O19 := s18
theorem under_at (s d : List UInt8) : (d ++ [47]).isPrefixOf s = (decide (d.length < s.length) && (s.take d.length == d) && (s[d.length]? == some 47)) := by
  rw [Bool.eq_iff_iff, List.isPrefixOf_iff_prefix, Bool.and_eq_true, Bool.and_eq_true, decide_eq_true_eq, beq_iff_eq, beq_iff_eq]
  constructor
  · rintro ⟨t, rfl⟩
    simp
  · rintro ⟨⟨h1, h2⟩, h3⟩
    refine ⟨s.drop (d.length + 1), ?_⟩
    rw [List.getElem?_eq_getElem h1] at h3
    have e : s = s.take d.length ++ s[d.length] :: s.drop (d.length + 1) := by rw [← List.drop_eq_getElem_cons h1, List.take_append_drop]
    rw [h2] at e
    rw [Option.some.inj h3] at e
    rw [List.append_assoc]
    exact e.symm
set_option maxHeartbeats 4000000 in
def O20 : Orc := O19
theorem s20 : Sound Tryd.prog O20 := s19
theorem bin_leqS2 {st : List Ob} {x y : List UInt8} : ev st (.bin .leq) [.str x, .str y] = some (.bool (!(lt y x)), [], st) := by rw [bin_leqS, leq_lt]
set_option maxHeartbeats 8000000 in
def O21 : Orc := O20
theorem s21 : Sound Tryd.prog O21 := s20
set_option maxHeartbeats 1000000 in
def KRows : List SV → SV → Prop := fun args r => ∃ v u a b, rdS v a ∧ rdS u b ∧ a.length ≤ 1099511627776 ∧ args = [v, u] ∧ r = .bool (decide (a = b))
def O22 : Orc := O21
theorem s22 : Sound Tryd.prog O22 := s21
theorem p17 {s : List UInt8} (hs : sm s) (st : List Ob) : O22 44 [.str s] st (.bool (rightB s)) st := (by repeat first | exact Or.inr ⟨rfl, rfl, s, hs, rfl, rfl⟩ | refine Or.inl ?_)
theorem p15 {s : List UInt8} (hs : sm s) (st : List Ob) : O22 50 [.str s] st (.bool (nameB s)) st := (by repeat first | exact Or.inr ⟨rfl, rfl, s, hs, rfl, rfl⟩ | refine Or.inl ?_)
theorem p16 {s : List UInt8} (hs : sm s) (st : List Ob) : O22 41 [.str s] st (.bool (rightB s)) st := (by repeat first | exact Or.inr ⟨rfl, rfl, s, hs, rfl, rfl⟩ | refine Or.inl ?_)
theorem p11 {s : List UInt8} (hs : sm s) (st : List Ob) : O22 48 [.str s] st (namesV s) st := (by repeat first | exact Or.inr ⟨rfl, rfl, s, hs, rfl, rfl⟩ | refine Or.inl ?_)
theorem p14 {s : List UInt8} (hs : sm s) (st : List Ob) : O22 52 [.str s] st (.bool (nameB s)) st := (by repeat first | exact Or.inr ⟨rfl, rfl, s, hs, rfl, rfl⟩ | refine Or.inl ?_)
end Go.Sh.F
namespace Go.Sh.F
open Go.PathLaw Go.Proofs
def wth (most n : Int) : Bool := decide (0 ≤ n) && decide (n ≤ most)
theorem wth_not (most n : Int) : (decide (n < 0) || decide (most < n)) = !wth most n := by
  unfold wth
  by_cases h1 : 0 ≤ n
  · by_cases h2 : n ≤ most
    · simp [h1, h2, show ¬ n < 0 by omega, show ¬ most < n by omega]
    · simp [h1, h2, show ¬ n < 0 by omega, show most < n by omega]
  · simp [h1, show n < 0 by omega]
/-- The one number that a closure sees. -/
def oneOb (st : List Ob) (id : Nat) (n : Int) : Prop := st[id]? = some (.cells [.int .i64 n])
theorem g40 (O : Orc) (n most : Int) (id : Nat) (st : List Ob) (h : oneOb st id most) : swpF O sf40 [.int .i64 n, .ptr id 0] st (fun r st' => r = .bool (!wth most n) ∧ st' = st) := by
  have h' : st[id]? = some (.cells [.int .i64 most]) := h
  rw [← wth_not]
  cases h1 : decide (n < 0) with
  | true =>
    simp (maxSteps := 2000000) (disch := first | omega | (simp only [List.length_append, List.length_cons, List.length_nil, List.length_map] <;> omega)) only [sf40, h1, flg_bool, swp_seq, swp_reg, swp_ret, seqK_n, evK_some, appK_eq, grd_t, srun_nil, srun_cons, stepK_grd, fin_ret, swpF_eq, sk_mv, sk_give, sk_pick, sk_bin, get_mk, raw_slot, raw_lit, put_some, wb_nil, ev_mv, ev_give, ev_pick, bin_lss, ro_int, ro_bool, List.map_cons, List.map_nil, List.getD_cons_zero, List.getD_cons_succ, List.set_cons_zero, List.set_cons_succ, List.length_cons, List.length_nil, List.replicate_succ, List.replicate_zero, List.cons_append, List.nil_append, Nat.reduceAdd, Nat.reduceSub, Bool.false_eq_true, ↓reduceIte, Nat.zero_add, reduceCtorEq]
    first | exact ⟨_, .same⟩ | exact ⟨_, .same, rfl⟩ | exact ⟨_, .same, rfl, rfl⟩
  | false =>
    simp (maxSteps := 2000000) (disch := first | omega | (simp only [List.length_append, List.length_cons, List.length_nil, List.length_map] <;> omega)) only [sf40, h1, h', flg_bool, exc_int, swp_seq, swp_reg, swp_ret, seqK_n, evK_some, appK_eq, grd_t, srun_nil, srun_cons, stepK_grd, fin_ret, swpF_eq, sk_mv, sk_take, sk_give, sk_pick, sk_bin, sk_load, get_mk, raw_slot, raw_lit, put_some, wb_nil, ev_mv, ev_take, ev_give, ev_pick, bin_lss, bin_gtr, ev_ldP, ldP_some, ro_int, ro_bool, got_int, List.map_cons, List.map_nil, List.getD_cons_zero, List.getD_cons_succ, List.set_cons_zero, List.set_cons_succ, List.getElem?_cons_zero, List.length_cons, List.length_nil, List.replicate_succ, List.replicate_zero, List.cons_append, List.nil_append, Nat.reduceAdd, Nat.reduceSub, Bool.false_eq_true, Option.map_some, ↓reduceIte, Nat.zero_add, gt_iff_lt]
    first | exact ⟨_, .same⟩ | exact ⟨_, .same, rfl⟩ | exact ⟨_, .same, rfl, rfl⟩
def O23 : Orc := O22.add 40 (StC fun st args r => ∃ (n most : Int) (id : Nat), oneOb st id most ∧ args = [.int .i64 n, .ptr id 0] ∧ r = .bool (!wth most n))
theorem s23 : Sound Tryd.prog O23 := s22.addS c40 (by kernel_rfl) (by
  rintro args r st ⟨n, most, id, h, rfl, rfl⟩
  exact ⟨by simp [sf40], g40 _ n most id st h⟩)
/-- The first number that is not within. -/
def outI (most : Int) : List Int → Int
  | [] => -1
  | x :: r => if wth most x = true then (if outI most r = -1 then -1 else outI most r + 1) else 0
theorem outI_ge (most : Int) : ∀ l, -1 ≤ outI most l
  | [] => by simp [outI]
  | x :: r => by
    have := outI_ge most r
    unfold outI
    split
    · split <;> omega
    · omega
theorem outI_all (most : Int) : ∀ l, decide (0 ≤ outI most l) = !(l.all (wth most))
  | [] => rfl
  | x :: r => by
    have ih := outI_all most r
    have hge := outI_ge most r
    unfold outI
    rw [List.all_cons]
    cases h : wth most x with
    | false => rw [if_neg (by simp)]; rfl
    | true =>
      rw [if_pos rfl, Bool.true_and, ← ih]
      split
      · rename_i e; rw [e]
      · rw [decide_eq_decide]; omega
theorem outI_drop (most : Int) : ∀ (l : List Int) (i : Nat), (l.take i).all (wth most) = true → i < l.length → ∀ h : i < l.length, (wth most l[i] = false → outI most l = i) := by
  intro l
  induction l with
  | nil => intro i _ h; simp at h
  | cons x r ih =>
    intro i hall hi h hw
    cases i with
    | zero =>
      unfold outI
      rw [if_neg (by simp only [List.getElem_cons_zero] at hw; rw [hw]; simp)]; rfl
    | succ i =>
      simp only [List.take_succ_cons, List.all_cons, Bool.and_eq_true] at hall
      have := ih i hall.2 (by simpa using hi) (by simpa using hi) (by simpa using hw)
      unfold outI
      rw [if_pos hall.1, this, if_neg (by omega)]; omega
theorem outI_none {most : Int} {l : List Int} (h : l.all (wth most) = true) : outI most l = -1 := by
  have := outI_all most l
  rw [h] at this
  have hge := outI_ge most l
  simp only [Bool.not_true, decide_eq_false_iff_not] at this
  omega
set_option maxHeartbeats 4000000 in
theorem g47 (v : SV) (l : List Int) (most : Int) (id : Nat) (st : List Ob) (hv : RowI st v l) (hl : l.length ≤ 1099511627776) (h : oneOb st id most) : swpF O23 sf47 [v, .fn 40 [] [.ptr id 0]] st (fun r st' => r = .int .i64 (outI most l) ∧ st' = st) := by
  obtain ⟨q1, q2, q3, q4, q6, q7⟩ := hv.facts
  have q5 := hv.lenL
  simp (maxSteps := 2000000) (disch := first | omega | (simp only [List.length_append, List.length_cons, List.length_nil, List.length_map] <;> omega)) only [sf47, q1, q5, flg_int, swp_seq, swp_reg, swp_block, seqK_n, evK_some, appK_eq, srun_nil, srun_cons, swpF_eq, sk_mv, sk_give, sk_lenL, get_mk, raw_slot, raw_lit, put_some, wb_nil, ev_mv, ev_give, ro_int, List.map_cons, List.map_nil, List.getD_cons_zero, List.set_cons_zero, List.set_cons_succ, List.length_cons, List.length_nil, List.replicate_succ, List.replicate_zero, List.cons_append, List.nil_append, Nat.reduceAdd, Nat.reduceSub, Bool.false_eq_true, ↓reduceIte, Nat.zero_add, Int.reduceNeg]
  refine swp_lp (fun S => ∃ (i : Nat), i ≤ l.length ∧ (l.take i).all (wth most) = true ∧
      S = ⟨[v, .fn 40 [] [.ptr id 0], .undef, .undef, .int .i64 0, .undef, v, .int .i64 l.length, .int .i64 i] ++ List.replicate 10 .undef, st⟩)
      (fun S => match S.get 8 with | .int _ k => ((l.length : Int) - k).toNat | _ => 0)
      ⟨[v, .fn 40 [] [.ptr id 0], .undef, .undef, .int .i64 0, .undef, v, .int .i64 l.length, .int .i64 0] ++ List.replicate 10 .undef, st⟩ ?_ ⟨0, Nat.zero_le _, rfl, rfl⟩ ?_
  · refine Forget.of ?_
    repeat first | exact fg_e | refine fg_d ?_ | refine fg_k rfl ?_
  rintro S ⟨i, hi, hall, rfl⟩
  by_cases him : i = l.length
  · have hd : decide ((i : Int) < (l.length : Int)) = false := by rw [decide_eq_false_iff_not]; omega
    rw [him, List.take_length] at hall
    rw [outI_none hall]
    simp (maxSteps := 2000000) (disch := first | omega | (simp only [List.length_append, List.length_cons, List.length_nil, List.length_map] <;> omega)) only [hd, lpK_e, flg_int, swp_seq, swp_reg, swp_ret, swp_exit, swp_cond, seqK_n, seqK_e, blkK_e, condK_f, evK_some, appK_eq, srun_nil, srun_cons, fin_ret, sk_give, sk_bin, get_mk, raw_slot, raw_lit, put_some, wb_nil, ev_give, bin_lss, ro_int, List.map_cons, List.map_nil, List.getD_cons_zero, List.getD_cons_succ, List.set_cons_zero, List.set_cons_succ, List.replicate_succ, List.replicate_zero, List.cons_append, List.nil_append, true_and, Bool.false_eq_true, ↓reduceIte, Int.reduceNeg]
    first | exact ⟨_, .same⟩ | exact ⟨_, .same, rfl⟩ | exact ⟨_, .same, rfl, rfl⟩
  have hd : decide ((i : Int) < (l.length : Int)) = true := by rw [decide_eq_true_eq]; omega
  have hil : i < l.length := by omega
  have z1 := hv.idxB hil .i64
  rw [Nat.mul_one] at z1
  have z2 := hv.ld1' (isv_at (List.getElem?_eq_getElem hil))
  have fin : ((l.length : Int) - ((i + 1 : Nat) : Int)).toNat < ((l.length : Int) - (i : Int)).toNat := by omega
  have k40 : O23 40 [.int .i64 l[i], .ptr id 0] st (.bool (!wth most l[i])) st := (by repeat first | exact Or.inr ⟨rfl, rfl, l[i], most, id, h, rfl, rfl⟩ | refine Or.inl ?_)
  simp (maxSteps := 2000000) (disch := first | omega | (simp only [List.length_append, List.length_cons, List.length_nil, List.length_map] <;> omega)) only [hd, z1, z2, q1, stepK_callv, callvK_fn, exc_int, exc_fn, sk_idxB, swp_seq, swp_reg, swp_skip, swp_block, swp_cond, seqK_n, condK_t, evK_some, appK_eq, srun_nil, srun_cons, sk_mv, sk_take, sk_bin, sk_load, get_mk, raw_slot, put_some, wb_nil, ev_mv, ev_take, bin_lss, ro_int, ro_fn, got_int, pubs, pubsFrom, List.map_cons, List.map_nil, List.getD_cons_zero, List.getD_cons_succ, List.set_cons_zero, List.set_cons_succ, List.replicate_succ, List.replicate_zero, List.cons_append, List.nil_append, Bool.false_eq_true, ↓reduceIte, Int.reduceNeg]
  refine callK_intro k40 ?_
  cases hw : wth most l[i] with
  | false =>
    rw [outI_drop most l i hall hil hil hw]
    simp (maxSteps := 2000000) (disch := first | omega | (simp only [List.length_append, List.length_cons, List.length_nil, List.length_map] <;> omega)) only [lpK_r, flg_int, swp_seq, swp_reg, swp_ret, swp_cond, seqK_n, seqK_r, blkK_r, condK_t, evK_some, appK_eq, appC_eq, srun_nil, srun_cons, fin_ret, sk_mv, sk_give, get_mk, raw_slot, put_some, wb_nil, ev_mv, ev_give, ro_int, List.map_cons, List.map_nil, List.getD_cons_zero, List.getD_cons_succ, List.set_cons_zero, List.set_cons_succ, true_and, Bool.false_eq_true, ↓reduceIte, Bool.not_false, Int.reduceNeg]
    first | exact ⟨_, .same⟩ | exact ⟨_, .same, rfl⟩ | exact ⟨_, .same, rfl, rfl⟩
  | true =>
    simp (maxSteps := 2000000) (disch := first | omega | (simp only [List.length_append, List.length_cons, List.length_nil, List.length_map] <;> omega)) only [lpK_n, swp_reg, swp_skip, swp_cond, seqK_n, blkK_n, condK_f, evK_some, appK_eq, appC_eq, srun_nil, srun_cons, sk_mv, sk_bin, get_mk, raw_slot, raw_lit, put_some, wb_nil, ev_mv, bin_add, ro_int, List.map_cons, List.map_nil, List.getD_cons_zero, List.getD_cons_succ, List.set_cons_zero, List.set_cons_succ, Bool.not_true, Int.reduceNeg, wrap_i64]
    refine ⟨_, ?_, ⟨i + 1, by omega, by rw [← List.take_append_getElem hil, List.all_append, hall]; simp [hw], rfl⟩, by exact fin⟩
    refine Forget.of ?_
    repeat first | exact fg_e | refine fg_d ?_ | refine fg_k rfl ?_
def O24 : Orc := O23.add 47 (StC fun st args r => ∃ (v : SV) (l : List Int) (most : Int) (id : Nat), RowI st v l ∧ l.length ≤ 1099511627776 ∧ oneOb st id most ∧ args = [v, .fn 40 [] [.ptr id 0]] ∧ r = .int .i64 (outI most l))
theorem s24 : Sound Tryd.prog O24 := s23.addS c47 (by kernel_rfl) (by
  rintro args r st ⟨v, l, most, id, hv, hl, h, rfl, rfl⟩
  exact ⟨by simp [sf47], g47 v l most id st hv hl h⟩)
theorem g39 (v : SV) (l : List Int) (most : Int) (id : Nat) (st : List Ob) (hv : RowI st v l) (hl : l.length ≤ 1099511627776) (h : oneOb st id most) : swpF O24 sf39 [v, .fn 40 [] [.ptr id 0]] st (fun r st' => r = .bool (!(l.all (wth most))) ∧ st' = st) := by
  obtain ⟨q1, q2, q3, q4, q6, q7⟩ := hv.facts
  have k47 : O24 47 [v, .fn 40 [] [.ptr id 0]] st (.int .i64 (outI most l)) st := (by repeat first | exact Or.inr ⟨rfl, rfl, v, l, most, id, hv, hl, h, rfl, rfl⟩ | refine Or.inl ?_)
  have e := outI_all most l
  simp (maxSteps := 2000000) (disch := first | omega | (simp only [List.length_append, List.length_cons, List.length_nil, List.length_map] <;> omega)) only [sf39, q1, q2, q3, flg_bool, exc_fn, swp_seq, swp_reg, seqK_n, evK_some, appK_eq, srun_nil, srun_cons, stepK_call, swpF_eq, sk_mv, sk_give, get_mk, raw_slot, raw_lit, put_some, wb_nil, ev_mv, ev_give, ro_bool, ro_fn, got_fn, pubs, pubsFrom, List.map_cons, List.map_nil, List.getD_cons_zero, List.getD_cons_succ, List.set_cons_zero, List.set_cons_succ, List.length_cons, List.length_nil, List.replicate_succ, List.replicate_zero, List.cons_append, List.nil_append, Nat.reduceAdd, Nat.reduceSub, Bool.false_eq_true, ↓reduceIte, Nat.zero_add]
  refine callK_intro k47 ?_
  simp (maxSteps := 2000000) (disch := first | omega | (simp only [List.length_append, List.length_cons, List.length_nil, List.length_map] <;> omega)) only [e, flg_bool, swp_ret, seqK_n, evK_some, appK_eq, appC_eq, srun_nil, srun_cons, fin_ret, sk_give, sk_bin, get_mk, raw_slot, raw_lit, put_some, wb_nil, ev_give, bin_geq, ro_bool, List.map_cons, List.map_nil, List.getD_cons_zero, List.getD_cons_succ, List.set_cons_zero, List.set_cons_succ, true_and, Bool.false_eq_true, ↓reduceIte, ge_iff_le]
  first | exact ⟨_, .same⟩ | exact ⟨_, .same, rfl⟩ | exact ⟨_, .same, rfl, rfl⟩
def O25 : Orc := O24.add 39 (StC fun st args r => ∃ (v : SV) (l : List Int) (most : Int) (id : Nat), RowI st v l ∧ l.length ≤ 1099511627776 ∧ oneOb st id most ∧ args = [v, .fn 40 [] [.ptr id 0]] ∧ r = .bool (!(l.all (wth most))))
theorem s25 : Sound Tryd.prog O25 := s24.addS c39 (by kernel_rfl) (by
  rintro args r st ⟨v, l, most, id, hv, hl, h, rfl, rfl⟩
  exact ⟨by simp [sf39], g39 v l most id st hv hl h⟩)
theorem sk_mfnS {O : Orc} {s : S} {a0 a1 a2 : Nat} {d : Option Nat} {a : List Arg} {K : S → Prop} : stepK O ⟨d, .mfn a0 a1 a2, a, none⟩ K s = evK (ev s.st (.mfn a0 a1 a2) (a.map (Arg.raw s))) (appK K s ⟨d, .mfn a0 a1 a2, a, none⟩) := sk_mfn
theorem ev_mfn01 {st : List Ob} {f : FuncId} {v : SV} : ev st (.mfn f 0 1) [v] = some (.fn f [] [ro v], [], st) := rfl
theorem g26 (v : SV) (l : List Int) (most : Int) (st : List Ob) (hv : RowI st v l) (hl : l.length ≤ 1099511627776) (ho : okSt st) : swpF O25 sf26 [.int .i64 most, v] st (fun r st' => r = .bool (l.all (wth most)) ∧ st' = st) := by
  obtain ⟨q1, q2, q3, q4, q6, q7⟩ := hv.facts
  have h1 : oneOb (st ++ [.cells [.int .i64 most]]) st.length most := by unfold oneOb; rw [getA0]; rfl
  have k39 : O25 39 [v, .fn 40 [] [.ptr st.length 0]] (st ++ [.cells [.int .i64 most]]) (.bool (!(l.all (wth most)))) (st ++ [.cells [.int .i64 most]]) := (by repeat first | exact Or.inr ⟨rfl, rfl, v, l, most, st.length, RowAt.mono hv _, hl, h1, rfl, rfl⟩ | refine Or.inl ?_)
  simp (maxSteps := 2000000) (disch := first | omega | (simp only [List.length_append, List.length_cons, List.length_nil, List.length_map] <;> omega)) only [sf26, ev_mfn01, q1, q2, q3, flg_bool, exc_int, exc_fn, swp_seq, swp_reg, seqK_n, evK_some, appK_eq, srun_nil, srun_cons, stepK_call, swpF_eq, sk_mv, sk_give, sk_box, sk_mfn, get_mk, raw_slot, raw_lit, put_some, wb_nil, ev_mv, ev_give, ev_box, ro_bool, ro_ptr, got_int, got_fn, pubs, pubsFrom, List.map_cons, List.map_nil, List.getD_cons_zero, List.getD_cons_succ, List.set_cons_zero, List.set_cons_succ, List.length_cons, List.length_nil, List.replicate_succ, List.replicate_zero, List.cons_append, List.nil_append, Nat.reduceAdd, Nat.reduceSub, Bool.false_eq_true, ↓reduceIte, List.all_cons, List.all_nil, Bool.and_self, cellsV, isCell, Nat.zero_add]
  refine callK_intro k39 ?_
  simp (maxSteps := 2000000) (disch := first | omega | (simp only [List.length_append, List.length_cons, List.length_nil, List.length_map] <;> omega)) only [Bool.not_not, flg_bool, swp_ret, seqK_n, evK_some, appK_eq, appC_eq, srun_nil, srun_cons, fin_ret, sk_give, sk_un, get_mk, raw_slot, put_some, wb_nil, ev_give, ev_not, ro_bool, List.map_cons, List.map_nil, List.getD_cons_zero, List.getD_cons_succ, List.set_cons_zero, List.set_cons_succ, true_and, Bool.false_eq_true, ↓reduceIte]
  first | exact ⟨_, trim1 ho rfl⟩ | exact ⟨_, trim1 ho rfl, rfl⟩ | exact ⟨_, trim1 ho rfl, rfl, rfl⟩ | exact ⟨_, trim1 ho rfl, by simp, rfl⟩ | exact ⟨_, trim1 ho rfl, by simp⟩
def O26 : Orc := O25.add 26 (StC fun st args r => ∃ (v : SV) (l : List Int) (most : Int), RowI st v l ∧ l.length ≤ 1099511627776 ∧ okSt st ∧ args = [.int .i64 most, v] ∧ r = .bool (l.all (wth most)))
theorem s26 : Sound Tryd.prog O26 := s25.addS c26 (by kernel_rfl) (by
  rintro args r st ⟨v, l, most, hv, hl, ho, rfl, rfl⟩
  exact ⟨by simp [sf26], g26 v l most st hv hl ho⟩)
/-- Clocks. -/
def clockB (a b : Int) : Bool := wth 1073741824 a && wth 1073741824 b
theorem g42 (O : Orc) (a b : Int) (st : List Ob) (ho : okSt st) : swpF O sf42 [.agg [.int .i64 a, .int .i64 b]] st (fun r st' => r = .bool (clockB a b) ∧ st' = st) := by
  have e : clockB a b = (decide (0 ≤ (if b < a then b else a)) && decide ((if a < b then b else a) ≤ 1073741824)) := by
    unfold clockB wth
    rw [Bool.eq_iff_iff]
    simp only [Bool.and_eq_true, decide_eq_true_eq]
    split <;> split <;> omega
  rw [e]
  cases h1 : decide (0 ≤ (if b < a then b else a)) with
  | false =>
    simp (maxSteps := 2000000) (disch := first | omega | (simp only [List.length_append, List.length_cons, List.length_nil, List.length_map] <;> omega)) only [sf42, h1, getA0, flg_bool, exc_agg, swp_seq, swp_reg, swp_ret, seqK_n, evK_some, appK_eq, grd_t, srun_nil, srun_cons, stepK_grd, fin_ret, swpF_eq, sk_mv, sk_give, sk_pick, sk_bin, sk_fld, sk_load, sk_min, sk_box, get_mk, raw_slot, raw_lit, put_some, wb_nil, ev_mv, ev_give, ev_pick, ev_fld, ev_min, bin_geq, ev_box, ev_ldP, ldP_some, ro_int, ro_bool, ro1_int, got_agg, List.map_cons, List.map_nil, List.getD_cons_zero, List.getD_cons_succ, List.set_cons_zero, List.set_cons_succ, List.getElem?_cons_zero, List.getElem?_cons_succ, List.length_cons, List.length_nil, List.replicate_succ, List.replicate_zero, List.cons_append, List.nil_append, Nat.reduceSub, Bool.false_eq_true, Option.map_some, ↓reduceIte, List.all_cons, List.all_nil, Bool.and_self, cellsV, isCell, Nat.zero_add, ge_iff_le]
    first | exact ⟨_, trim1 ho rfl⟩ | exact ⟨_, trim1 ho rfl, rfl⟩ | exact ⟨_, trim1 ho rfl, rfl, rfl⟩ | exact ⟨_, trim1 ho rfl, by simp, rfl⟩ | exact ⟨_, trim1 ho rfl, by simp⟩
  | true =>
    simp (maxSteps := 2000000) (disch := first | omega | (simp only [List.length_append, List.length_cons, List.length_nil, List.length_map] <;> omega)) only [sf42, h1, getA0, flg_bool, exc_agg, swp_seq, swp_reg, swp_ret, seqK_n, evK_some, appK_eq, grd_t, srun_nil, srun_cons, stepK_grd, fin_ret, swpF_eq, sk_mv, sk_give, sk_pick, sk_bin, sk_fld, sk_load, sk_min, sk_max, sk_box, get_mk, raw_slot, raw_lit, put_some, wb_nil, ev_mv, ev_give, ev_pick, ev_fld, ev_min, ev_max, bin_leq, bin_geq, ev_box, ev_ldP, ldP_some, ro_int, ro_bool, ro1_int, got_agg, List.map_cons, List.map_nil, List.getD_cons_zero, List.getD_cons_succ, List.set_cons_zero, List.set_cons_succ, List.getElem?_cons_zero, List.getElem?_cons_succ, List.length_cons, List.length_nil, List.replicate_succ, List.replicate_zero, List.cons_append, List.nil_append, Nat.reduceSub, Bool.false_eq_true, Option.map_some, ↓reduceIte, List.all_cons, List.all_nil, Bool.and_self, cellsV, isCell, Nat.zero_add, ge_iff_le, gt_iff_lt]
    first | exact ⟨_, trim1 ho rfl⟩ | exact ⟨_, trim1 ho rfl, rfl⟩ | exact ⟨_, trim1 ho rfl, rfl, rfl⟩ | exact ⟨_, trim1 ho rfl, by simp, rfl⟩ | exact ⟨_, trim1 ho rfl, by simp⟩
def KClock : List Ob → List SV → SV → Prop := fun st args r => ∃ a b : Int, okSt st ∧ args = [.agg [.int .i64 a, .int .i64 b]] ∧ r = .bool (clockB a b)
def O27 : Orc := O26.add 42 (StC KClock)
theorem s27 : Sound Tryd.prog O27 := s26.addS c42 (by kernel_rfl) (by
  rintro args r st ⟨a, b, ho, rfl, rfl⟩
  exact ⟨by simp [sf42], g42 _ a b st ho⟩)
theorem g45 (O : Orc) (a b : Int) (st : List Ob) (ho : okSt st) : swpF O sf45 [.agg [.int .i64 a, .int .i64 b]] st (fun r st' => r = .bool (clockB a b) ∧ st' = st) := by
  unfold clockB wth
  obtain ⟨b1, h1⟩ : ∃ x, decide (0 ≤ a) = x := ⟨_, rfl⟩
  obtain ⟨b2, h2⟩ : ∃ x, decide (a ≤ 1073741824) = x := ⟨_, rfl⟩
  obtain ⟨b3, h3⟩ : ∃ x, decide (0 ≤ b) = x := ⟨_, rfl⟩
  rw [h1, h2, h3]
  cases b1 <;> cases b2 <;> cases b3
  all_goals
    simp (maxSteps := 2000000) (disch := first | omega | (simp only [List.length_append, List.length_cons, List.length_nil, List.length_map] <;> omega)) only [sf45, h1, h2, h3, getA0, flg_bool, exc_agg, swp_seq, swp_reg, swp_ret, seqK_n, evK_some, appK_eq, grd_t, srun_nil, srun_cons, stepK_grd, fin_ret, swpF_eq, sk_mv, sk_give, sk_pick, sk_bin, sk_fld, sk_load, sk_box, get_mk, raw_slot, raw_lit, put_some, wb_nil, ev_mv, ev_give, ev_pick, ev_fld, bin_leq, bin_geq, ev_box, ev_ldP, ldP_some, ro_int, ro_bool, ro1_int, got_agg, List.map_cons, List.map_nil, List.getD_cons_zero, List.getD_cons_succ, List.set_cons_zero, List.set_cons_succ, List.getElem?_cons_zero, List.getElem?_cons_succ, List.length_cons, List.length_nil, List.replicate_succ, List.replicate_zero, List.cons_append, List.nil_append, Nat.reduceSub, Bool.false_eq_true, Option.map_some, ↓reduceIte, List.all_cons, List.all_nil, Bool.and_true, Bool.and_self, cellsV, isCell, Nat.zero_add, ge_iff_le]
    first | exact ⟨_, trim1 ho rfl⟩ | exact ⟨_, trim1 ho rfl, rfl⟩ | exact ⟨_, trim1 ho rfl, rfl, rfl⟩ | exact ⟨_, trim1 ho rfl, by simp, rfl⟩ | exact ⟨_, trim1 ho rfl, by simp⟩
def O28 : Orc := O27.add 45 (StC KClock)
theorem s28 : Sound Tryd.prog O28 := s27.addS c45 (by kernel_rfl) (by
  rintro args r st ⟨a, b, ho, rfl, rfl⟩
  exact ⟨by simp [sf45], g45 _ a b st ho⟩)
/-- How many pieces. -/
def countF (n : Int) : Int := if n < 1 then 0 else (n - 1).tdiv 64 + 1
theorem td64 {n : Int} (h : 1 ≤ n) : 0 ≤ (n - 1).tdiv 64 ∧ (n - 1).tdiv 64 ≤ n - 1 := by
  rw [Int.tdiv_eq_ediv_of_nonneg (by omega)]
  omega
theorem g43 (O : Orc) (n : Int) (hn : n ≤ 9223372036854775807) (st : List Ob) : swpF O sf43 [.int .i64 n] st (fun r st' => r = .int .i64 (countF n) ∧ st' = st) := by
  by_cases h : n < 1
  · have hd : decide (n < 1) = true := by simpa using h
    simp (maxSteps := 2000000) (disch := first | omega | (simp only [List.length_append, List.length_cons, List.length_nil, List.length_map] <;> omega)) only [sf43, hd, flg_int, swp_seq, swp_reg, swp_ret, swp_cond, seqK_n, seqK_r, condK_t, evK_some, appK_eq, srun_nil, srun_cons, fin_ret, swpF_eq, sk_mv, sk_give, sk_bin, get_mk, raw_slot, raw_lit, put_some, wb_nil, ev_mv, ev_give, bin_lss, ro_int, List.map_cons, List.map_nil, List.getD_cons_zero, List.getD_cons_succ, List.set_cons_zero, List.set_cons_succ, List.length_cons, List.length_nil, List.replicate_succ, List.replicate_zero, List.cons_append, List.nil_append, Nat.reduceSub, Bool.false_eq_true, ↓reduceIte, Nat.zero_add]
    exact ⟨_, .same, by unfold countF; rw [if_pos h], rfl⟩
  · have hd : decide (n < 1) = false := by simpa using h
    have ht := td64 (n := n) (by omega)
    have hnn : ¬ (64 : Int) = 0 := by decide
    simp (maxSteps := 2000000) (disch := first | omega | (simp only [List.length_append, List.length_cons, List.length_nil, List.length_map] <;> omega)) only [sf43, hd, bin_quo hnn, flg_int, swp_seq, swp_reg, swp_skip, swp_ret, swp_cond, seqK_n, condK_f, evK_some, appK_eq, srun_nil, srun_cons, fin_ret, swpF_eq, sk_mv, sk_give, sk_bin, get_mk, raw_slot, raw_lit, put_some, wb_nil, ev_mv, ev_give, bin_add, bin_sub, bin_lss, ro_int, List.map_cons, List.map_nil, List.getD_cons_zero, List.getD_cons_succ, List.set_cons_zero, List.set_cons_succ, List.length_cons, List.length_nil, List.replicate_succ, List.replicate_zero, List.cons_append, List.nil_append, Nat.reduceSub, Bool.false_eq_true, ↓reduceIte, Nat.zero_add, wrap_i64]
    exact ⟨_, .same, by unfold countF; rw [if_neg h], rfl⟩
def KCount : List SV → SV → Prop := fun args r => ∃ n : Int, n ≤ 9223372036854775807 ∧ args = [.int .i64 n] ∧ r = .int .i64 (countF n)
def O29 : Orc := O28.add 43 (FnC KCount)
theorem s29 : Sound Tryd.prog O29 := s28.addP c43 (by kernel_rfl) (by
  rintro args r ⟨n, hn, rfl, rfl⟩
  exact ⟨by simp [sf43], fun st => g43 _ n hn st⟩)
theorem g46 (O : Orc) (n : Int) (hn : n ≤ 9223372036854775807) (st : List Ob) : swpF O sf46 [.int .i64 n] st (fun r st' => r = .int .i64 (countF n) ∧ st' = st) := by
  by_cases h : n < 1
  · have hd : decide (n < 1) = true := by simpa using h
    simp (maxSteps := 2000000) (disch := first | omega | (simp only [List.length_append, List.length_cons, List.length_nil, List.length_map] <;> omega)) only [sf46, hd, flg_int, swp_seq, swp_reg, swp_ret, swp_cond, seqK_n, seqK_r, condK_t, evK_some, appK_eq, srun_nil, srun_cons, fin_ret, swpF_eq, sk_mv, sk_give, sk_bin, get_mk, raw_slot, raw_lit, put_some, wb_nil, ev_mv, ev_give, bin_lss, ro_int, List.map_cons, List.map_nil, List.getD_cons_zero, List.getD_cons_succ, List.set_cons_zero, List.set_cons_succ, List.length_cons, List.length_nil, List.replicate_succ, List.replicate_zero, List.cons_append, List.nil_append, Nat.reduceSub, Bool.false_eq_true, ↓reduceIte, Nat.zero_add]
    exact ⟨_, .same, by unfold countF; rw [if_pos h], rfl⟩
  · have hd : decide (n < 1) = false := by simpa using h
    have ht := td64 (n := n) (by omega)
    have hnn : ¬ (64 : Int) = 0 := by decide
    simp (maxSteps := 2000000) (disch := first | omega | (simp only [List.length_append, List.length_cons, List.length_nil, List.length_map] <;> omega)) only [sf46, hd, bin_quo hnn, flg_int, swp_seq, swp_reg, swp_skip, swp_ret, swp_cond, seqK_n, condK_f, evK_some, appK_eq, srun_nil, srun_cons, fin_ret, swpF_eq, sk_mv, sk_give, sk_bin, get_mk, raw_slot, raw_lit, put_some, wb_nil, ev_mv, ev_give, bin_add, bin_sub, bin_lss, ro_int, List.map_cons, List.map_nil, List.getD_cons_zero, List.getD_cons_succ, List.set_cons_zero, List.set_cons_succ, List.length_cons, List.length_nil, List.replicate_succ, List.replicate_zero, List.cons_append, List.nil_append, Nat.reduceSub, Bool.false_eq_true, ↓reduceIte, Nat.zero_add, wrap_i64]
    exact ⟨_, .same, by unfold countF; rw [if_neg h], rfl⟩
def O30 : Orc := O29.add 46 (FnC KCount)
theorem s30 : Sound Tryd.prog O30 := s29.addP c46 (by kernel_rfl) (by
  rintro args r ⟨n, hn, rfl, rfl⟩
  exact ⟨by simp [sf46], fun st => g46 _ n hn st⟩)
theorem g35 (O : Orc) (n most : Int) (st : List Ob) : swpF O sf35 [.int .i64 n, .int .i64 most] st (fun r st' => r = .bool (wth most n) ∧ st' = st) := by
  unfold wth
  cases h1 : decide (0 ≤ n) with
  | false =>
    simp (maxSteps := 2000000) (disch := first | omega | (simp only [List.length_append, List.length_cons, List.length_nil, List.length_map] <;> omega)) only [sf35, h1, flg_bool, swp_seq, swp_reg, swp_ret, seqK_n, evK_some, appK_eq, grd_t, srun_nil, srun_cons, stepK_grd, fin_ret, swpF_eq, sk_mv, sk_give, sk_pick, sk_bin, get_mk, raw_slot, raw_lit, put_some, wb_nil, ev_mv, ev_give, ev_pick, bin_geq, ro_int, ro_bool, List.map_cons, List.map_nil, List.getD_cons_zero, List.getD_cons_succ, List.set_cons_zero, List.set_cons_succ, List.length_cons, List.length_nil, List.replicate_succ, List.replicate_zero, List.cons_append, List.nil_append, Nat.reduceAdd, Nat.reduceSub, Bool.false_eq_true, ↓reduceIte, Nat.zero_add, ge_iff_le]
    first | exact ⟨_, .same⟩ | exact ⟨_, .same, rfl⟩ | exact ⟨_, .same, rfl, rfl⟩
  | true =>
    simp (maxSteps := 2000000) (disch := first | omega | (simp only [List.length_append, List.length_cons, List.length_nil, List.length_map] <;> omega)) only [sf35, h1, flg_bool, exc_int, swp_seq, swp_reg, swp_ret, seqK_n, evK_some, appK_eq, grd_t, srun_nil, srun_cons, stepK_grd, fin_ret, swpF_eq, sk_mv, sk_take, sk_give, sk_pick, sk_bin, get_mk, raw_slot, raw_lit, put_some, wb_nil, ev_mv, ev_take, ev_give, ev_pick, bin_leq, bin_geq, ro_int, ro_bool, got_int, List.map_cons, List.map_nil, List.getD_cons_zero, List.getD_cons_succ, List.set_cons_zero, List.set_cons_succ, List.length_cons, List.length_nil, List.replicate_succ, List.replicate_zero, List.cons_append, List.nil_append, Nat.reduceAdd, Nat.reduceSub, Bool.false_eq_true, ↓reduceIte, Nat.zero_add, ge_iff_le]
    first | exact ⟨_, .same⟩ | exact ⟨_, .same, rfl⟩ | exact ⟨_, .same, rfl, rfl⟩
def O31 : Orc := O30.add 35 (FnC fun args r => ∃ n most : Int, args = [.int .i64 n, .int .i64 most] ∧ r = .bool (wth most n))
theorem s31 : Sound Tryd.prog O31 := s30.addP c35 (by kernel_rfl) (by
  rintro args r ⟨n, most, rfl, rfl⟩
  exact ⟨by simp [sf35], fun st => g35 _ n most st⟩)
end Go.Sh.F
namespace Go.Sh.F
open Go.PathLaw Go.Proofs
/-- A piece: the value that its row of chunks is, and the chunks. -/
structure Pc where
  path : List UInt8
  has : Bool
  size : Int
  cv : SV
  ch : List Int
  dig : Int
  cl : Int
  cr : Int
def Pc.cells (p : Pc) : List SV := [.str p.path, .bool p.has, .int .i64 p.size, p.cv, .int .i64 p.dig, .int .i64 p.cl, .int .i64 p.cr]
def Pc.ok (st : List Ob) (p : Pc) : Prop := RowI st p.cv p.ch ∧ p.ch.length ≤ 268435456 ∧ sm p.path
theorem Pc.ok.mono {st : List Ob} {p : Pc} (h : p.ok st) (x : List Ob) : p.ok (st ++ x) := ⟨RowAt.mono h.1 x, h.2⟩
/-- A manifest. -/
structure Mf where
  au : Int
  ve : Int
  pr : Int
  ep : Int
  ne : Int
  se : Int
  sh : Int
  pv : SV
  ps : List Pc
def Mf.cells (m : Mf) : List SV := [.int .i64 m.au, .int .i64 m.ve, .int .i64 m.pr, .int .i64 m.ep, .int .i64 m.ne, .int .i64 m.se, .int .i64 m.sh, m.pv]
def Mf.ok (st : List Ob) (m : Mf) : Prop := RowAt st m.pv 7 m.ps.length (m.ps.flatMap Pc.cells) ∧ m.ps.length ≤ 268435456 ∧ ∀ p ∈ m.ps, p.ok st
theorem Mf.ok.mono {st : List Ob} {m : Mf} (h : m.ok st) (x : List Ob) : m.ok (st ++ x) := ⟨RowAt.mono h.1 x, h.2.1, fun p hp => (h.2.2 p hp).mono x⟩
theorem pc_len (l : List Pc) : ∀ z ∈ l, (Pc.cells z).length = 7 := fun _ _ => rfl
abbrev MX : Int := 4294967295
/-- Right pieces, right manifests. -/
def rightP (p : Pc) : Bool := rightB p.path && clockB p.cl p.cr && !(p.cl == 0 && p.cr == 0) &&
  (if p.has then wth 600 p.size && ((p.ch.length : Int) == countF p.size) && wth MX p.dig && p.ch.all (wth MX) else p.size == 0 && p.dig == 0 && (p.ch.length : Int) == 0)
def rows : List Pc → Bool
  | [] => true
  | [p] => rightP p
  | p :: q :: r => rightP p && lt p.path q.path && rows (q :: r)
def headM (m : Mf) : Bool := wth 1 m.au && (decide (1 ≤ m.ve) && decide (m.ve ≤ 200)) && wth MX m.pr && wth MX m.se && wth MX m.sh && wth 100 m.ep && wth 100 m.ne && (m.ne == m.ep || m.ne == m.ep + 1)
def rightM (m : Mf) : Bool := headM m && rows m.ps && decide (m.ps.length ≤ 32)
/-- A cursor. -/
structure Cu where
  ve : Int
  he : Int
  ep : Int
  ak : Int
def Cu.cells (c : Cu) : List SV := [.int .i64 c.ve, .int .i64 c.he, .int .i64 c.ep, .int .i64 c.ak]
def digF (own : List Int) (v : Int) : Int := if v = 0 then 0 else if v < 0 ∨ (own.length : Int) < v then -1 else own.getD (v - 1).toNat 0
/-- What is told of a manifest at a cursor: 0 is no error. -/
def accE (c : Cu) (au : Int) (m : Mf) (own : List Int) : Int :=
  if !(rightM m && m.au == au) then 4 else if !decide (c.ve < m.ve) then 9 else if !decide (m.ve - 1 ≤ c.ve) then 10 else if !(m.pr == c.he) then 11 else if !(m.ep == c.ep) then 12
  else if !(decide (c.ak ≤ m.se) && m.sh == digF own m.se) then 11 else 0
def accC (c : Cu) (au : Int) (m : Mf) (head : Int) (own : List Int) : Cu := if accE c au m own = 0 then ⟨m.ve, head, m.ne, m.se⟩ else c
theorem acc_ok {c : Cu} {au : Int} {m : Mf} {own : List Int} (h : accE c au m own = 0) : rightM m = true ∧ m.au = au ∧ m.ve = c.ve + 1 ∧ m.pr = c.he ∧ m.ep = c.ep ∧ c.ak ≤ m.se ∧ m.sh = digF own m.se := by
  unfold accE at h
  repeat' split at h
  all_goals first | (exfalso; omega) | skip
  rename_i h1 h2 h3 h4 h5 h6
  simp only [Bool.not_eq_true', Bool.not_eq_false, Bool.and_eq_true, decide_eq_true_eq, beq_iff_eq] at h1 h2 h3 h4 h5 h6
  exact ⟨h1.1, h1.2, by omega, h4, h5, h6.1, h6.2⟩
theorem acc_of {c : Cu} {au : Int} {m : Mf} {own : List Int} (h : rightM m = true ∧ m.au = au ∧ m.ve = c.ve + 1 ∧ m.pr = c.he ∧ m.ep = c.ep ∧ c.ak ≤ m.se ∧ m.sh = digF own m.se) : accE c au m own = 0 := by
  obtain ⟨h1, h2, h3, h4, h5, h6, h7⟩ := h
  have e1 : decide (c.ve < m.ve) = true := by rw [decide_eq_true_eq]; omega
  have e2 : decide (m.ve - 1 ≤ c.ve) = true := by rw [decide_eq_true_eq]; omega
  have e3 : decide (c.ak ≤ m.se) = true := by rw [decide_eq_true_eq]; omega
  unfold accE
  simp [h1, h2, e1, e2, h4, h5, e3, h7]
theorem right_head {m : Mf} (h : rightM m = true) : wth 1 m.au = true ∧ 1 ≤ m.ve ∧ m.ve ≤ 200 ∧ wth MX m.se = true ∧ wth 100 m.ep = true ∧ wth 100 m.ne = true ∧ (m.ne = m.ep ∨ m.ne = m.ep + 1) := by
  simp only [rightM, headM, Bool.and_eq_true, decide_eq_true_eq, Bool.or_eq_true, beq_iff_eq] at h
  obtain ⟨⟨⟨⟨⟨⟨⟨⟨⟨h1, h2⟩, h3⟩, h4⟩, h5⟩, h6⟩, h7⟩, h8⟩, _⟩, _⟩ := h
  exact ⟨h1, h2.1, h2.2, h4, h6, h7, h8⟩
/-- The manifest that follows. -/
def nxtE (c : Cu) (turn : Bool) : Int := if turn then c.ep + 1 else c.ep
def nxtM (c : Cu) (au : Int) (turn : Bool) (pv ph : Int) (v : SV) (ps : List Pc) : Mf := ⟨au, c.ve + 1, c.he, c.ep, nxtE c turn, pv, ph, v, ps⟩
def nxtF (c : Cu) (au : Int) (turn : Bool) (pv ph : Int) (v : SV) (ps : List Pc) : Int :=
  if decide (200 ≤ c.ve) || decide (100 < nxtE c turn) then 2 else if rightM (nxtM c au turn pv ph v ps) then 0 else 4
def Mf.none : Mf := ⟨0, 0, 0, 0, 0, 0, 0, .nilS, []⟩
theorem Mf.none_ok (st : List Ob) : Mf.none.ok st := ⟨RowAt.nil, by simp [Mf.none], by simp [Mf.none]⟩
end Go.Sh.F
namespace Go.Sh.F
open Go.PathLaw Go.Proofs
theorem phz : (7777 : Nat) + 1 = 7778 := rfl
theorem bf (b : Bool) : b = false ∨ b = true := by cases b <;> simp
theorem bt (b : Bool) : b = true ∨ b = false := by cases b <;> simp
theorem nbI (a b : Int) : (a != b) = !(a == b) := rfl
theorem cv_agg {l : List SV} : cellsV (.agg l) = l := rfl
theorem cv_int {k : IntKind} {x : Int} : cellsV (.int k x) = [.int k x] := rfl
theorem cv_str {x : List UInt8} : cellsV (.str x) = [.str x] := rfl
theorem cv_bool {x : Bool} : cellsV (.bool x) = [.bool x] := rfl
theorem cv_fn {f : _} {a : _} {l : _} : cellsV (.fn f a l) = [.fn f a l] := rfl
theorem cv_nilS : cellsV .nilS = [.nilS] := rfl
theorem cv_nilF : cellsV .nilF = [.nilF] := rfl
theorem cv_nilP : cellsV .nilP = [.nilP] := rfl
theorem cv_ptr {a b : Nat} : cellsV (.ptr a b) = [.ptr a b] := rfl
theorem cv_sl {a : List SV} {b : Nat} {c : Fl} : cellsV (.sl a b c) = [.sl a b c] := rfl
theorem cv_slo {a b c : Nat} : cellsV (.slo a b c) = [.slo a b c] := rfl
theorem cell_fn {f : _} {a : _} {l : _} : isCell (.fn f a l) = true := rfl
theorem _root_.Go.Sh.RowAt.cv {st : List Ob} {v : SV} {es n : Nat} {cs : List SV} (h : RowAt st v es n cs) : cellsV v = [v] := by
  obtain ⟨h1, ⟨rfl, _⟩ | ⟨fl, rfl | rfl, rfl⟩ | ⟨id, off, l, rfl, _⟩⟩ := h <;> rfl
theorem cell_str {x : List UInt8} : isCell (.str x) = true := rfl
theorem cell_int {k : IntKind} {x : Int} : isCell (.int k x) = true := rfl
theorem cell_bool {x : Bool} : isCell (.bool x) = true := rfl
theorem cell_nilS : isCell .nilS = true := rfl
theorem eq_pair {st : List Ob} {n : Bool} {k : IntKind} {a b c d : Int} : ev st (.eqA n [.i, .i]) [.agg [.int k a, .int k b], .agg [.int k c, .int k d]] = some (.bool (if n then !(a == c && b == d) else a == c && b == d), [], st) := by
  rw [ev_eqA, eqKs_i, eqKs_i, eqKs_nil]
  cases h1 : (a == c) <;> cases h2 : (b == d) <;> cases n <;> rfl
theorem eq_four {st : List Ob} {n : Bool} {k : IntKind} {a b c d a' b' c' d' : Int} : ev st (.eqA n [.i, .i, .i, .i]) [.agg [.int k a, .int k b, .int k c, .int k d], .agg [.int k a', .int k b', .int k c', .int k d']] = some (.bool (if n then !(a == a' && b == b' && c == c' && d == d') else (a == a' && b == b' && c == c' && d == d')), [], st) := by
  rw [ev_eqA, eqKs_i, eqKs_i, eqKs_i, eqKs_i, eqKs_nil]
  cases h1 : (a == a') <;> cases h2 : (b == b') <;> cases h3 : (c == c') <;> cases h4 : (d == d') <;> cases n <;> rfl
theorem idOks_pc {st : List Ob} {p : Pc} (h : p.ok st) : idOks st.length p.cells = true := by
  have := RowI.idOk h.1
  simp only [Pc.cells, idOks, idOk, this, Bool.and_self]
theorem okP {st : List Ob} {p : Pc} (h : p.ok st) (ho : okSt st) : okSt (st ++ [.cells p.cells]) := by
  refine okSt_appL ho ?_
  have := idOks_pc (h.mono [.cells p.cells])
  rw [List.length_append] at this
  simp only [List.all_cons, List.all_nil, Bool.and_true, obOk]
  exact this
theorem r41 {s : List UInt8} (hs : sm s) {st : List Ob} : O31 41 [.str s] st (.bool (rightB s)) st := (.inl (.inl (.inl (.inl (.inl (.inl (.inl (.inl (.inl (p16 hs st))))))))))
theorem r44 {s : List UInt8} (hs : sm s) {st : List Ob} : O31 44 [.str s] st (.bool (rightB s)) st := (.inl (.inl (.inl (.inl (.inl (.inl (.inl (.inl (.inl (p17 hs st))))))))))
theorem r26 {v : SV} {l : List Int} {most : Int} {st : List Ob} (hv : RowI st v l) (hl : l.length ≤ 1099511627776) (ho : okSt st) : O31 26 [.int .i64 most, v] st (.bool (l.all (wth most))) st := (by repeat first | exact Or.inr ⟨rfl, rfl, v, l, most, hv, hl, ho, rfl, rfl⟩ | refine Or.inl ?_)
theorem r26a {x most : Int} {st : List Ob} {f : Fl} (hf : f = .ro ∨ f = .full) (ho : okSt st) : O31 26 [.int .i64 most, .sl [.int .i64 x] 1 f] st (.bool (wth most x)) st := by
  have := r26 (v := .sl [.int .i64 x] 1 f) (l := [x]) (most := most) (st := st) (RowI.mk hf rfl) (by simp) ho
  simpa using this
theorem r26b {x y most : Int} {st : List Ob} {f : Fl} (hf : f = .ro ∨ f = .full) (ho : okSt st) : O31 26 [.int .i64 most, .sl [.int .i64 x, .int .i64 y] 2 f] st (.bool (wth most x && wth most y)) st := by
  have := r26 (v := .sl [.int .i64 x, .int .i64 y] 2 f) (l := [x, y]) (most := most) (st := st) (RowI.mk hf rfl) (by simp) ho
  simpa using this
theorem r26c {x y z most : Int} {st : List Ob} {f : Fl} (hf : f = .ro ∨ f = .full) (ho : okSt st) : O31 26 [.int .i64 most, .sl [.int .i64 x, .int .i64 y, .int .i64 z] 3 f] st (.bool (wth most x && (wth most y && wth most z))) st := by
  have := r26 (v := .sl [.int .i64 x, .int .i64 y, .int .i64 z] 3 f) (l := [x, y, z]) (most := most) (st := st) (RowI.mk hf rfl) (by simp) ho
  simpa using this
theorem r42 {a b : Int} {st : List Ob} (ho : okSt st) : O31 42 [.agg [.int .i64 a, .int .i64 b]] st (.bool (clockB a b)) st := (by repeat first | exact Or.inr ⟨rfl, rfl, a, b, ho, rfl, rfl⟩ | refine Or.inl ?_)
theorem r45 {a b : Int} {st : List Ob} (ho : okSt st) : O31 45 [.agg [.int .i64 a, .int .i64 b]] st (.bool (clockB a b)) st := (by repeat first | exact Or.inr ⟨rfl, rfl, a, b, ho, rfl, rfl⟩ | refine Or.inl ?_)
theorem r43 {n : Int} (hn : n ≤ 9223372036854775807) {st : List Ob} : O31 43 [.int .i64 n] st (.int .i64 (countF n)) st := (by repeat first | exact Or.inr ⟨rfl, rfl, n, hn, rfl, rfl⟩ | refine Or.inl ?_)
theorem r46 {n : Int} (hn : n ≤ 9223372036854775807) {st : List Ob} : O31 46 [.int .i64 n] st (.int .i64 (countF n)) st := (by repeat first | exact Or.inr ⟨rfl, rfl, n, hn, rfl, rfl⟩ | refine Or.inl ?_)
theorem r35 {n most : Int} {st : List Ob} : O31 35 [.int .i64 n, .int .i64 most] st (.bool (wth most n)) st := (by repeat first | exact Or.inr ⟨rfl, rfl, n, most, rfl, rfl⟩ | refine Or.inl ?_)
set_option maxHeartbeats 8000000 in
theorem g27 (p : Pc) (st : List Ob) (hp : p.ok st) (ho : okSt st) : swpF O31 sf27 [.agg p.cells] st (fun r st' => r = .bool (rightP p) ∧ st' = st) := by
  have o1 := okP hp ho
  obtain ⟨path, has, size, cv, ch, dig, cl, cr⟩ := p
  obtain ⟨hv, hl, hs⟩ := hp
  have hv1 := RowAt.mono hv [.cells [.str path, .bool has, .int .i64 size, cv, .int .i64 dig, .int .i64 cl, .int .i64 cr]]
  obtain ⟨q1, q2, q3, q4, q6, q7⟩ := hv.facts
  have q5 := hv.lenL
  simp only [Pc.cells] at o1 ⊢
  simp only at hv hv1 hl hs q1 q2 q3 q4 q5 q6 q7
  simp (maxSteps := 2000000) (disch := first | omega | (simp only [List.length_append, List.length_cons, List.length_nil, List.length_map] <;> omega)) only [sf27, q6, q7, cv_agg, cell_str, cell_int, cell_bool, getA0, Nat.add_zero, List.set_cons_zero, List.set_cons_succ, flg_bool, exc_str, exc_agg, swp_seq, swp_reg, swp_block, seqK_n, evK_some, appK_eq, srun_nil, srun_cons, stepK_call, swpF_eq, sk_give, sk_fld, sk_load, sk_box, get_mk, raw_slot, raw_lit, put_some, wb_nil, ev_give, ev_fld, ev_box, ev_ldP, ldP_some, ro_bool, ro_str, ro1_int, ro1_str, ro1_bool, got_str, got_agg, pubs, pubsFrom, List.map_cons, List.map_nil, List.getD_cons_zero, List.getD_cons_succ, List.set_cons_zero, List.set_cons_succ, List.getElem?_cons_zero, List.length_cons, List.length_nil, List.replicate_succ, List.replicate_zero, List.cons_append, List.nil_append, Nat.reduceSub, Bool.false_eq_true, Option.map_some, ↓reduceIte, List.all_cons, List.all_nil, Bool.and_self, Nat.zero_add]
  refine callK_intro (r41 hs) ?_
  rcases bf (rightB path) with h1 | h1
  · rw [h1]
    simp (maxSteps := 2000000) (disch := first | omega | (simp only [List.length_append, List.length_cons, List.length_nil, List.length_map] <;> omega)) only [List.set_cons_zero, List.set_cons_succ, flg_bool, swp_seq, swp_reg, swp_ret, swp_cond, seqK_n, seqK_r, blkK_r, condK_t, evK_some, appK_eq, appC_eq, grd_t, srun_nil, srun_cons, stepK_grd, fin_ret, sk_mv, sk_give, sk_pick, sk_un, get_mk, raw_slot, raw_lit, put_some, wb_nil, ev_mv, ev_give, ev_pick, ev_not, ro_bool, List.map_cons, List.map_nil, List.getD_cons_zero, List.getD_cons_succ, List.set_cons_zero, List.set_cons_succ, Bool.false_eq_true, ↓reduceIte, reduceCtorEq, Bool.not_false]
    first | exact ⟨_, trim1 ho rfl, by simp [rightP, h1], rfl⟩ | exact ⟨_, trim1 ho rfl, by simp [rightP, h1]⟩ | exact ⟨_, .same, by simp [rightP, h1], rfl⟩
  rw [h1]
  simp (maxSteps := 2000000) (disch := first | omega | (simp only [List.length_append, List.length_cons, List.length_nil, List.length_map] <;> omega)) only [getA0, ev_ldA, List.drop_succ_cons, List.drop_zero, List.take_succ_cons, List.take_zero, List.set_cons_zero, List.set_cons_succ, apO_some, exc_agg, evK_some, appK_eq, appC_eq, grd_t, srun_cons, stepK_call, stepK_grd, sk_mv, sk_un, sk_fld, sk_load, get_mk, raw_slot, put_some, wb_nil, ev_mv, ev_not, ev_fld, ro_bool, ro_agg, ro1_int, got_agg, pubs, pubsFrom, List.map_cons, List.map_nil, List.getD_cons_zero, List.getD_cons_succ, List.set_cons_zero, List.set_cons_succ, List.getElem?_cons_zero, List.length_cons, List.length_nil, Nat.reduceAdd, Bool.false_eq_true, ↓reduceIte, Nat.zero_add, Bool.not_true, Nat.le_refl]
  refine callK_intro (r42 o1) ?_
  rcases bf (clockB cl cr) with h2 | h2
  · rw [h2]
    simp (maxSteps := 2000000) (disch := first | omega | (simp only [List.length_append, List.length_cons, List.length_nil, List.length_map] <;> omega)) only [List.set_cons_zero, List.set_cons_succ, flg_bool, swp_seq, swp_reg, swp_ret, swp_cond, seqK_n, seqK_r, blkK_r, condK_t, evK_some, appK_eq, appC_eq, grd_t, srun_nil, srun_cons, stepK_grd, fin_ret, sk_mv, sk_give, sk_pick, sk_un, get_mk, raw_slot, raw_lit, put_some, wb_nil, ev_mv, ev_give, ev_pick, ev_not, ro_bool, List.map_cons, List.map_nil, List.getD_cons_zero, List.getD_cons_succ, List.set_cons_zero, List.set_cons_succ, Bool.false_eq_true, ↓reduceIte, reduceCtorEq, Bool.not_false]
    first | exact ⟨_, trim1 ho rfl, by simp [rightP, h1, h2], rfl⟩ | exact ⟨_, trim1 ho rfl, by simp [rightP, h1, h2]⟩ | exact ⟨_, .same, by simp [rightP, h1, h2], rfl⟩
  rw [h2]
  rcases bt (cl == 0 && cr == 0) with h3 | h3
  · simp (maxSteps := 2000000) (disch := first | omega | (simp only [List.length_append, List.length_cons, List.length_nil, List.length_map] <;> omega)) only [h3, eq_pair, getA0, ev_ldA, List.drop_succ_cons, List.drop_zero, List.take_succ_cons, List.take_zero, List.set_cons_zero, List.set_cons_succ, apO_some, flg_bool, swp_seq, swp_reg, swp_ret, swp_cond, seqK_n, seqK_r, blkK_r, condK_t, evK_some, appK_eq, appC_eq, grd_t, srun_nil, srun_cons, stepK_grd, fin_ret, sk_mv, sk_give, sk_pick, sk_eqA, sk_un, sk_fld, sk_load, sk_bld, get_mk, raw_slot, raw_lit, put_some, wb_nil, ev_mv, ev_give, ev_pick, ev_not, ev_fld, ev_bld, ro_bool, ro_agg, ro1_int, pubs, pubsFrom, List.map_cons, List.map_nil, List.getD_cons_zero, List.getD_cons_succ, List.set_cons_zero, List.set_cons_succ, List.getElem?_cons_zero, List.length_cons, List.length_nil, Nat.reduceAdd, Bool.false_eq_true, Option.map_some, ↓reduceIte, List.zip_nil_right, fillV, Nat.zero_add, Bool.not_true, Nat.le_refl]
    first | exact ⟨_, trim1 ho rfl, by simp [rightP, h1, h2, h3], rfl⟩ | exact ⟨_, trim1 ho rfl, by simp [rightP, h1, h2, h3]⟩ | exact ⟨_, .same, by simp [rightP, h1, h2, h3], rfl⟩
  cases has with
  | false =>
    have h5 := phz
    have h6 := phz
    rcases bf (size == 0) with h5 | h5
    rotate_left
    rcases bf (dig == 0) with h6 | h6
    all_goals simp (maxSteps := 2000000) (disch := first | omega | (simp only [List.length_append, List.length_cons, List.length_nil, List.length_map] <;> omega)) only [h3, h5, h6, q1, q5, eq_pair, getA0, ev_ldA, List.drop_succ_cons, List.drop_zero, List.take_succ_cons, List.take_zero, List.set_cons_zero, List.set_cons_succ, apO_some, flg_bool, swp_seq, swp_reg, swp_ret, swp_cond, seqK_n, seqK_r, blkK_r, condK_t, condK_f, evK_some, appK_eq, appC_eq, grd_t, srun_nil, srun_cons, stepK_grd, fin_ret, sk_mv, sk_give, sk_pick, sk_bin, sk_eqA, sk_un, sk_fld, sk_load, sk_lenL, sk_bld, get_mk, raw_slot, raw_lit, put_some, wb_nil, ev_mv, ev_give, ev_pick, ev_not, ev_fld, bin_eql, ev_bld, ev_ldP, ldP_some, ro_int, ro_bool, ro_agg, ro1_int, pubs, pubsFrom, List.map_cons, List.map_nil, List.getD_cons_zero, List.getD_cons_succ, List.set_cons_zero, List.set_cons_succ, List.getElem?_cons_zero, List.getElem?_cons_succ, List.length_cons, List.length_nil, Nat.reduceAdd, Bool.false_eq_true, Option.map_some, ↓reduceIte, List.zip_nil_right, fillV, Nat.zero_add, Bool.not_true, Bool.not_false, Nat.le_refl]
    all_goals first | exact ⟨_, trim1 ho rfl, by simp [rightP, h1, h2, h3, h5, h6], rfl⟩ | exact ⟨_, trim1 ho rfl, by simp [rightP, h1, h2, h3, h5, h6]⟩ | exact ⟨_, .same, by simp [rightP, h1, h2, h3, h5, h6], rfl⟩
  | true =>
    simp (maxSteps := 2000000) (disch := first | omega | (simp only [List.length_append, List.length_cons, List.length_nil, List.length_map] <;> omega)) only [h3, cv_int, eq_pair, cell_int, getA0, ev_ldA, List.drop_succ_cons, List.drop_zero, List.take_succ_cons, List.take_zero, List.set_cons_zero, List.set_cons_succ, pub_excl2, apO_some, flg_bool, exc_int, exc_excl, swp_seq, swp_reg, swp_skip, swp_cond, seqK_n, blkK_n, condK_f, evK_some, appK_eq, appC_eq, grd_t, srun_nil, srun_cons, stepK_call, stepK_grd, sk_mv, sk_give, sk_pick, sk_eqA, sk_un, sk_fld, sk_load, sk_bsl, sk_bld, get_mk, raw_slot, raw_lit, put_some, wb_nil, ev_mv, ev_give, ev_pick, ev_not, ev_fld, ev_bsl, ev_bld, ev_ldP, ldP_some, ro_int, ro_bool, ro_agg, ro1_int, got_excl, got_int, pubs, pubsFrom, List.map_cons, List.map_nil, List.getD_cons_zero, List.getD_cons_succ, List.set_cons_zero, List.set_cons_succ, List.getElem?_cons_zero, List.getElem?_cons_succ, List.length_cons, List.length_nil, List.replicate_succ, List.replicate_zero, Nat.reduceAdd, Nat.reduceLT, and_true, Bool.false_eq_true, Option.map_some, ↓reduceIte, List.all_cons, List.all_nil, Bool.and_self, List.zip_cons_cons, List.zip_nil_right, rep, fillV, wrCells, List.flatten_cons, List.flatten_nil, List.append_nil, decide_true, Nat.mul_one, Nat.zero_add, Bool.not_true, Nat.le_refl]
    refine callK_intro (r26a (by simp) o1) ?_
    rcases bf (wth 600 size) with h4 | h4
    · rw [h4]
      simp (maxSteps := 2000000) (disch := first | omega | (simp only [List.length_append, List.length_cons, List.length_nil, List.length_map] <;> omega)) only [List.set_cons_zero, List.set_cons_succ, flg_bool, swp_ret, seqK_n, evK_some, appK_eq, appC_eq, grd_t, srun_nil, srun_cons, stepK_grd, fin_ret, sk_mv, sk_give, sk_pick, get_mk, raw_slot, raw_lit, put_some, wb_nil, wb_cons, ev_mv, ev_give, ev_pick, ro_bool, List.map_cons, List.map_nil, List.getD_cons_zero, List.getD_cons_succ, List.set_cons_zero, List.set_cons_succ, List.getElem?_cons_zero, List.getElem?_cons_succ, Bool.false_eq_true, ↓reduceIte]
      first | exact ⟨_, trim1 ho rfl, by simp [rightP, h1, h2, h3, h4], rfl⟩ | exact ⟨_, trim1 ho rfl, by simp [rightP, h1, h2, h3, h4]⟩ | exact ⟨_, .same, by simp [rightP, h1, h2, h3, h4], rfl⟩
    rw [h4]
    have hsz : size ≤ 9223372036854775807 := by
      simp only [wth, Bool.and_eq_true, decide_eq_true_eq] at h4; omega
    simp (maxSteps := 2000000) (disch := first | omega | (simp only [List.length_append, List.length_cons, List.length_nil, List.length_map] <;> omega)) only [q1, q5, getA0, List.set_cons_zero, List.set_cons_succ, stepK_callp, exc_int, evK_some, appK_eq, appC_eq, grd_t, srun_cons, stepK_grd, sk_mv, sk_bin, sk_fld, sk_load, sk_lenL, get_mk, raw_slot, put_some, wb_nil, wb_cons, ev_mv, ev_fld, ev_ldP, ldP_some, ro_int, ro_bool, got_int, pubs, pubsFrom, List.map_cons, List.map_nil, List.getD_cons_zero, List.getD_cons_succ, List.set_cons_zero, List.set_cons_succ, List.getElem?_cons_zero, List.getElem?_cons_succ, Bool.false_eq_true, Option.map_some, ↓reduceIte, Nat.zero_add]
    refine callpK_intro (fun _ => r43 hsz) ?_
    rcases bf ((ch.length : Int) == countF size) with h5 | h5
    · simp (maxSteps := 2000000) (disch := first | omega | (simp only [List.length_append, List.length_cons, List.length_nil, List.length_map] <;> omega)) only [h5, List.set_cons_zero, List.set_cons_succ, flg_bool, swp_ret, seqK_n, evK_some, appK_eq, grd_t, srun_nil, srun_cons, stepK_grd, fin_ret, sk_mv, sk_give, sk_pick, get_mk, raw_slot, raw_lit, put_some, wb_nil, ev_mv, ev_give, ev_pick, bin_eql, ro_bool, List.map_cons, List.map_nil, List.getD_cons_zero, List.getD_cons_succ, List.set_cons_zero, List.set_cons_succ, Bool.false_eq_true, ↓reduceIte]
      first | exact ⟨_, trim1 ho rfl, by simp [rightP, h1, h2, h3, h4, h5], rfl⟩ | exact ⟨_, trim1 ho rfl, by simp [rightP, h1, h2, h3, h4, h5]⟩ | exact ⟨_, .same, by simp [rightP, h1, h2, h3, h4, h5], rfl⟩
    simp (maxSteps := 2000000) (disch := first | omega | (simp only [List.length_append, List.length_cons, List.length_nil, List.length_map] <;> omega)) only [h5, cv_int, cell_int, getA0, List.set_cons_zero, List.set_cons_succ, pub_excl2, exc_int, exc_excl, evK_some, appK_eq, grd_t, srun_cons, stepK_call, stepK_grd, sk_mv, sk_pick, sk_fld, sk_load, sk_bsl, get_mk, raw_slot, raw_lit, put_some, wb_nil, ev_mv, ev_pick, ev_fld, bin_eql, ev_bsl, ev_ldP, ldP_some, ro_int, ro_bool, got_excl, got_int, pubs, pubsFrom, List.map_cons, List.map_nil, List.getD_cons_zero, List.getD_cons_succ, List.set_cons_zero, List.set_cons_succ, List.getElem?_cons_zero, List.getElem?_cons_succ, List.length_cons, List.length_nil, List.replicate_succ, List.replicate_zero, Nat.reduceLT, and_true, Bool.false_eq_true, Option.map_some, ↓reduceIte, List.all_cons, List.all_nil, Bool.and_self, List.zip_cons_cons, List.zip_nil_right, rep, fillV, wrCells, List.flatten_cons, List.flatten_nil, List.append_nil, decide_true, Nat.mul_one, Nat.zero_add, Nat.le_refl]
    refine callK_intro (r26a (by simp) o1) ?_
    rcases bf (wth 4294967295 dig) with h6 | h6
    · rw [h6]
      simp (maxSteps := 2000000) (disch := first | omega | (simp only [List.length_append, List.length_cons, List.length_nil, List.length_map] <;> omega)) only [List.set_cons_zero, List.set_cons_succ, flg_bool, swp_ret, seqK_n, evK_some, appK_eq, appC_eq, grd_t, srun_nil, srun_cons, stepK_grd, fin_ret, sk_mv, sk_give, sk_pick, get_mk, raw_slot, raw_lit, put_some, wb_nil, wb_cons, ev_mv, ev_give, ev_pick, ro_bool, List.map_cons, List.map_nil, List.getD_cons_zero, List.getD_cons_succ, List.set_cons_zero, List.set_cons_succ, List.getElem?_cons_zero, List.getElem?_cons_succ, Bool.false_eq_true, ↓reduceIte]
      first | exact ⟨_, trim1 ho rfl, by simp [rightP, h1, h2, h3, h4, h5, h6], rfl⟩ | exact ⟨_, trim1 ho rfl, by simp [rightP, h1, h2, h3, h4, h5, h6]⟩ | exact ⟨_, .same, by simp [rightP, h1, h2, h3, h4, h5, h6], rfl⟩
    rw [h6]
    simp (maxSteps := 2000000) (disch := first | omega | (simp only [List.length_append, List.length_cons, List.length_nil, List.length_map] <;> omega)) only [q1, q2, q3, getA0, List.set_cons_zero, List.set_cons_succ, exc_int, evK_some, appK_eq, appC_eq, grd_t, srun_cons, stepK_call, stepK_grd, sk_mv, sk_pick, sk_fld, sk_load, get_mk, raw_slot, raw_lit, put_some, wb_nil, wb_cons, ev_mv, ev_pick, ev_fld, ev_ldP, ldP_some, ro_bool, got_int, pubs, pubsFrom, List.map_cons, List.map_nil, List.getD_cons_zero, List.getD_cons_succ, List.set_cons_zero, List.set_cons_succ, List.getElem?_cons_zero, List.getElem?_cons_succ, Bool.false_eq_true, Option.map_some, ↓reduceIte, Nat.zero_add]
    refine callK_intro (r26 hv1 (by omega) o1) ?_
    simp (maxSteps := 2000000) (disch := first | omega | (simp only [List.length_append, List.length_cons, List.length_nil, List.length_map] <;> omega)) only [List.set_cons_zero, List.set_cons_succ, flg_bool, swp_ret, seqK_n, evK_some, appK_eq, appC_eq, srun_nil, srun_cons, fin_ret, sk_give, sk_pick, get_mk, raw_slot, raw_lit, put_some, wb_nil, ev_give, ev_pick, ro_bool, List.map_cons, List.map_nil, List.getD_cons_zero, List.getD_cons_succ, List.set_cons_zero, List.set_cons_succ, Bool.false_eq_true, ↓reduceIte]
    first | exact ⟨_, trim1 ho rfl, by simp [rightP, h1, h2, h3, h4, h5, h6], rfl⟩ | exact ⟨_, trim1 ho rfl, by simp [rightP, h1, h2, h3, h4, h5, h6]⟩ | exact ⟨_, .same, by simp [rightP, h1, h2, h3, h4, h5, h6], rfl⟩
def KPiece : List Ob → List SV → SV → Prop := fun st args r => ∃ p : Pc, p.ok st ∧ okSt st ∧ args = [.agg p.cells] ∧ r = .bool (rightP p)
def O32 : Orc := O31.add 27 (StC KPiece)
theorem s32 : Sound Tryd.prog O32 := s31.addS c27 (by kernel_rfl) (by
  rintro args r st ⟨p, hp, ho, rfl, rfl⟩
  exact ⟨by simp [sf27], g27 p st hp ho⟩)
theorem all_iff {l : List Int} {p : Int → Bool} : l.all p = true ↔ ∀ (j : Nat) (x : Int), l[j]? = some x → p x = true := by
  rw [List.all_eq_true]
  constructor
  · intro h j x hx
    exact h x (List.mem_of_getElem? hx)
  · intro h x hx
    obtain ⟨j, hj⟩ := List.getElem?_of_mem hx
    exact h j x hj
set_option maxHeartbeats 8000000 in
theorem g36 (p : Pc) (st : List Ob) (hp : p.ok st) (ho : okSt st) : swpF O32 sf36 [.agg p.cells] st (fun r st' => r = .bool (rightP p) ∧ st' = st) := by
  have o1 := okP hp ho
  obtain ⟨path, has, size, cv, ch, dig, cl, cr⟩ := p
  obtain ⟨hv, hl, hs⟩ := hp
  have hv1 := RowAt.mono hv [.cells [.str path, .bool has, .int .i64 size, cv, .int .i64 dig, .int .i64 cl, .int .i64 cr]]
  obtain ⟨q1, q2, q3, q4, q6, q7⟩ := hv.facts
  have q5 := hv.lenL
  simp only [Pc.cells] at o1 ⊢
  simp only at hv hv1 hl hs q1 q2 q3 q4 q5 q6 q7
  simp (maxSteps := 2000000) (disch := first | omega | (simp only [List.length_append, List.length_cons, List.length_nil, List.length_map] <;> omega)) only [sf36, q6, q7, cv_agg, cell_str, cell_int, cell_bool, getA0, Nat.add_zero, List.set_cons_zero, List.set_cons_succ, flg_bool, exc_str, exc_agg, swp_seq, swp_reg, seqK_n, evK_some, appK_eq, srun_nil, srun_cons, stepK_call, swpF_eq, sk_give, sk_fld, sk_load, sk_box, get_mk, raw_slot, raw_lit, put_some, wb_nil, ev_give, ev_fld, ev_box, ev_ldP, ldP_some, ro_bool, ro_str, ro1_int, ro1_str, ro1_bool, got_str, got_agg, pubs, pubsFrom, List.map_cons, List.map_nil, List.getD_cons_zero, List.getD_cons_succ, List.set_cons_zero, List.set_cons_succ, List.getElem?_cons_zero, List.length_cons, List.length_nil, List.replicate_succ, List.replicate_zero, List.cons_append, List.nil_append, Nat.reduceSub, Bool.false_eq_true, Option.map_some, ↓reduceIte, List.all_cons, List.all_nil, Bool.and_self, Nat.zero_add]
  refine callK_intro (.inl (r44 hs)) ?_
  simp (maxSteps := 2000000) (disch := first | omega | (simp only [List.length_append, List.length_cons, List.length_nil, List.length_map] <;> omega)) only [getA0, ev_ldA, List.drop_succ_cons, List.drop_zero, List.take_succ_cons, List.take_zero, List.set_cons_zero, List.set_cons_succ, apO_some, flg_bool, exc_agg, swp_seq, swp_reg, seqK_n, evK_some, appK_eq, appC_eq, srun_nil, srun_cons, stepK_call, sk_give, sk_fld, sk_load, get_mk, raw_slot, put_some, wb_nil, ev_give, ev_fld, ro_bool, ro_agg, ro1_int, got_agg, pubs, pubsFrom, List.map_cons, List.map_nil, List.getD_cons_zero, List.getD_cons_succ, List.set_cons_zero, List.set_cons_succ, List.getElem?_cons_zero, List.length_cons, List.length_nil, Nat.reduceAdd, Bool.false_eq_true, ↓reduceIte, Nat.zero_add, Nat.le_refl]
  refine callK_intro (.inl (r45 o1)) ?_
  rcases bf (rightB path) with h1 | h1
  · rw [h1]
    simp (maxSteps := 2000000) (disch := first | omega | (simp only [List.length_append, List.length_cons, List.length_nil, List.length_map] <;> omega)) only [List.set_cons_zero, List.set_cons_succ, flg_bool, grd_s, swp_seq, swp_reg, swp_ret, swp_cond, seqK_n, seqK_r, condK_t, evK_some, appK_eq, appC_eq, grd_t, srun_nil, srun_cons, stepK_grd, fin_ret, sk_mv, sk_give, sk_pick, sk_un, get_mk, raw_slot, raw_lit, put_some, wb_nil, ev_mv, ev_give, ev_pick, ev_not, ro_bool, List.map_cons, List.map_nil, List.getD_cons_zero, List.getD_cons_succ, List.set_cons_zero, List.set_cons_succ, Bool.false_eq_true, ↓reduceIte, reduceCtorEq, Bool.not_false]
    first | exact ⟨_, trim1 ho rfl, by simp [rightP, h1], rfl⟩ | exact ⟨_, trim1 ho rfl, by simp [rightP, h1]⟩ | exact ⟨_, .same, by simp [rightP, h1], rfl⟩
  rw [h1]
  rcases bf (clockB cl cr) with h2 | h2
  · rw [h2]
    simp (maxSteps := 2000000) (disch := first | omega | (simp only [List.length_append, List.length_cons, List.length_nil, List.length_map] <;> omega)) only [List.set_cons_zero, List.set_cons_succ, flg_bool, exc_bool, grd_s, swp_seq, swp_reg, swp_ret, swp_cond, seqK_n, seqK_r, condK_t, evK_some, appK_eq, appC_eq, grd_t, srun_nil, srun_cons, stepK_grd, fin_ret, sk_mv, sk_take, sk_give, sk_pick, sk_un, get_mk, raw_slot, raw_lit, put_some, wb_nil, ev_mv, ev_take, ev_give, ev_pick, ev_not, ro_bool, got_bool, List.map_cons, List.map_nil, List.getD_cons_zero, List.getD_cons_succ, List.set_cons_zero, List.set_cons_succ, Bool.false_eq_true, ↓reduceIte, reduceCtorEq, Bool.not_true, Bool.not_false]
    first | exact ⟨_, trim1 ho rfl, by simp [rightP, h1, h2], rfl⟩ | exact ⟨_, trim1 ho rfl, by simp [rightP, h1, h2]⟩ | exact ⟨_, .same, by simp [rightP, h1, h2], rfl⟩
  rw [h2]
  have h3 := phz
  have h4 := phz
  rcases bf (cl == 0) with h3 | h3
  rotate_left
  rcases bf (cr == 0) with h4 | h4
  rotate_left
  · simp (maxSteps := 2000000) (disch := first | omega | (simp only [List.length_append, List.length_cons, List.length_nil, List.length_map] <;> omega)) only [h3, h4, getA0, Nat.add_zero, List.set_cons_zero, List.set_cons_succ, flg_bool, exc_bool, swp_seq, swp_reg, swp_ret, swp_cond, seqK_n, seqK_r, condK_t, evK_some, appK_eq, appC_eq, grd_t, srun_nil, srun_cons, stepK_grd, fin_ret, sk_mv, sk_take, sk_give, sk_pick, sk_bin, sk_un, sk_fld, sk_load, get_mk, raw_slot, raw_lit, put_some, wb_nil, ev_mv, ev_take, ev_give, ev_pick, ev_not, ev_fld, bin_eql, ev_ldP, ldP_some, ro_int, ro_bool, got_bool, List.map_cons, List.map_nil, List.getD_cons_zero, List.getD_cons_succ, List.set_cons_zero, List.set_cons_succ, List.getElem?_cons_zero, List.getElem?_cons_succ, Nat.reduceAdd, Bool.false_eq_true, Option.map_some, ↓reduceIte, Nat.zero_add, Bool.not_true]
    first | exact ⟨_, trim1 ho rfl, by simp [rightP, h1, h2, h3, h4], rfl⟩ | exact ⟨_, trim1 ho rfl, by simp [rightP, h1, h2, h3, h4]⟩ | exact ⟨_, .same, by simp [rightP, h1, h2, h3, h4], rfl⟩
  all_goals
    have h34 : (cl == 0 && cr == 0) = false := by simp [h3, h4]
    cases has with
    | false =>
      have h5 := phz
      have h6 := phz
      rcases bf (size == 0) with h5 | h5
      rotate_left
      rcases bf (dig == 0) with h6 | h6
      all_goals
        simp (maxSteps := 2000000) (disch := first | omega | (simp only [List.length_append, List.length_cons, List.length_nil, List.length_map] <;> omega)) only [h3, h4, h5, h6, q1, q5, getA0, Nat.add_zero, List.set_cons_zero, List.set_cons_succ, flg_bool, exc_bool, swp_seq, swp_reg, swp_skip, swp_ret, swp_cond, seqK_n, seqK_r, condK_t, condK_f, evK_some, appK_eq, appC_eq, grd_t, srun_nil, srun_cons, stepK_grd, fin_ret, sk_mv, sk_take, sk_give, sk_pick, sk_bin, sk_un, sk_fld, sk_load, sk_lenL, get_mk, raw_slot, raw_lit, put_some, wb_nil, ev_mv, ev_take, ev_give, ev_pick, ev_not, ev_fld, bin_eql, ev_ldP, ldP_some, ro_int, ro_bool, got_bool, List.map_cons, List.map_nil, List.getD_cons_zero, List.getD_cons_succ, List.set_cons_zero, List.set_cons_succ, List.getElem?_cons_zero, List.getElem?_cons_succ, Nat.reduceAdd, Bool.false_eq_true, Option.map_some, ↓reduceIte, Nat.zero_add, Bool.not_true, Bool.not_false]
        first | exact ⟨_, trim1 ho rfl, by simp [rightP, h1, h2, h34, h5, h6], rfl⟩ | exact ⟨_, trim1 ho rfl, by simp [rightP, h1, h2, h34, h5, h6]⟩ | exact ⟨_, .same, by simp [rightP, h1, h2, h34, h5, h6], rfl⟩
    | true =>
      simp (maxSteps := 2000000) (disch := first | omega | (simp only [List.length_append, List.length_cons, List.length_nil, List.length_map] <;> omega)) only [h3, h4, getA0, Nat.add_zero, List.set_cons_zero, List.set_cons_succ, stepK_callp, flg_bool, exc_bool, exc_int, swp_seq, swp_reg, swp_skip, swp_cond, seqK_n, condK_f, evK_some, appK_eq, appC_eq, grd_t, srun_nil, srun_cons, stepK_grd, sk_mv, sk_take, sk_give, sk_pick, sk_bin, sk_un, sk_fld, sk_load, get_mk, raw_slot, raw_lit, put_some, wb_nil, ev_mv, ev_take, ev_give, ev_pick, ev_not, ev_fld, bin_eql, ev_ldP, ldP_some, ro_int, ro_bool, got_int, got_bool, pubs, pubsFrom, List.map_cons, List.map_nil, List.getD_cons_zero, List.getD_cons_succ, List.set_cons_zero, List.set_cons_succ, List.getElem?_cons_zero, List.getElem?_cons_succ, Nat.reduceAdd, Bool.false_eq_true, Option.map_some, ↓reduceIte, Nat.zero_add, Bool.not_true]
      refine callpK_intro (fun _ => .inl r35) ?_
      rcases bf (wth 600 size) with h5 | h5
      · rw [h5]
        simp (maxSteps := 2000000) (disch := first | omega | (simp only [List.length_append, List.length_cons, List.length_nil, List.length_map] <;> omega)) only [List.set_cons_zero, List.set_cons_succ, flg_bool, swp_seq, swp_reg, swp_ret, swp_cond, seqK_n, seqK_r, condK_t, evK_some, appK_eq, grd_t, srun_nil, srun_cons, stepK_grd, fin_ret, sk_mv, sk_give, sk_pick, get_mk, raw_slot, raw_lit, put_some, wb_nil, ev_mv, ev_give, ev_pick, ev_not, ro_bool, List.map_cons, List.map_nil, List.getD_cons_zero, List.getD_cons_succ, List.set_cons_zero, List.set_cons_succ, Bool.false_eq_true, ↓reduceIte, reduceCtorEq, Bool.not_false]
        first | exact ⟨_, trim1 ho rfl, by simp [rightP, h1, h2, h34, h5], rfl⟩ | exact ⟨_, trim1 ho rfl, by simp [rightP, h1, h2, h34, h5]⟩ | exact ⟨_, .same, by simp [rightP, h1, h2, h34, h5], rfl⟩
      rw [h5]
      have hsz : size ≤ 9223372036854775807 := by
        simp only [wth, Bool.and_eq_true, decide_eq_true_eq] at h5; omega
      simp (maxSteps := 2000000) (disch := first | omega | (simp only [List.length_append, List.length_cons, List.length_nil, List.length_map] <;> omega)) only [getA0, List.set_cons_zero, List.set_cons_succ, stepK_callp, exc_int, evK_some, appK_eq, appC_eq, grd_t, srun_cons, stepK_grd, sk_mv, sk_un, sk_fld, sk_load, get_mk, raw_slot, raw_lit, put_some, wb_nil, ev_mv, ev_not, ev_fld, ev_ldP, ldP_some, ro_int, ro_bool, got_int, pubs, pubsFrom, List.map_cons, List.map_nil, List.getD_cons_zero, List.getD_cons_succ, List.set_cons_zero, List.set_cons_succ, List.getElem?_cons_zero, List.getElem?_cons_succ, Bool.false_eq_true, Option.map_some, ↓reduceIte, Nat.zero_add, Bool.not_true]
      refine callpK_intro (fun _ => .inl r35) ?_
      rcases bf (wth 4294967295 dig) with h6 | h6
      · rw [h6]
        simp (maxSteps := 2000000) (disch := first | omega | (simp only [List.length_append, List.length_cons, List.length_nil, List.length_map] <;> omega)) only [List.set_cons_zero, List.set_cons_succ, flg_bool, swp_seq, swp_reg, swp_ret, swp_cond, seqK_n, seqK_r, condK_t, evK_some, appK_eq, grd_t, srun_nil, srun_cons, stepK_grd, fin_ret, sk_mv, sk_give, sk_pick, get_mk, raw_slot, raw_lit, put_some, wb_nil, ev_mv, ev_give, ev_pick, ev_not, ro_bool, List.map_cons, List.map_nil, List.getD_cons_zero, List.getD_cons_succ, List.set_cons_zero, List.set_cons_succ, Bool.false_eq_true, ↓reduceIte, reduceCtorEq, Bool.not_false]
        first | exact ⟨_, trim1 ho rfl, by simp [rightP, h1, h2, h34, h5, h6], rfl⟩ | exact ⟨_, trim1 ho rfl, by simp [rightP, h1, h2, h34, h5, h6]⟩ | exact ⟨_, .same, by simp [rightP, h1, h2, h34, h5, h6], rfl⟩
      rw [h6]
      simp (maxSteps := 2000000) (disch := first | omega | (simp only [List.length_append, List.length_cons, List.length_nil, List.length_map] <;> omega)) only [q1, q5, getA0, List.set_cons_zero, List.set_cons_succ, stepK_callp, exc_int, evK_some, appK_eq, appC_eq, grd_t, srun_cons, stepK_grd, sk_mv, sk_pick, sk_bin, sk_fld, sk_load, sk_lenL, get_mk, raw_slot, raw_lit, put_some, wb_nil, ev_mv, ev_pick, ev_not, ev_fld, ev_ldP, ldP_some, ro_int, ro_bool, got_int, pubs, pubsFrom, List.map_cons, List.map_nil, List.getD_cons_zero, List.getD_cons_succ, List.set_cons_zero, List.set_cons_succ, List.getElem?_cons_zero, List.getElem?_cons_succ, Bool.false_eq_true, Option.map_some, ↓reduceIte, Nat.zero_add, Bool.not_true]
      refine callpK_intro (fun _ => .inl (r46 hsz)) ?_
      rcases bf ((ch.length : Int) == countF size) with h7 | h7
      · simp (maxSteps := 2000000) (disch := first | omega | (simp only [List.length_append, List.length_cons, List.length_nil, List.length_map] <;> omega)) only [h7, nbI, List.set_cons_zero, List.set_cons_succ, flg_bool, swp_seq, swp_reg, swp_ret, swp_cond, seqK_n, seqK_r, condK_t, evK_some, appK_eq, srun_nil, srun_cons, fin_ret, sk_give, sk_pick, get_mk, raw_slot, raw_lit, put_some, wb_nil, ev_give, ev_pick, bin_neq, ro_bool, List.map_cons, List.map_nil, List.getD_cons_zero, List.getD_cons_succ, List.set_cons_zero, List.set_cons_succ, Bool.false_eq_true, ↓reduceIte, Bool.not_false]
        first | exact ⟨_, trim1 ho rfl, by simp [rightP, h1, h2, h34, h5, h6, h7], rfl⟩ | exact ⟨_, trim1 ho rfl, by simp [rightP, h1, h2, h34, h5, h6, h7]⟩ | exact ⟨_, .same, by simp [rightP, h1, h2, h34, h5, h6, h7], rfl⟩
      simp (maxSteps := 2000000) (disch := first | omega | (simp only [List.length_append, List.length_cons, List.length_nil, List.length_map] <;> omega)) only [h7, nbI, List.set_cons_zero, List.set_cons_succ, exc_int, swp_seq, swp_reg, swp_skip, swp_block, swp_cond, seqK_n, condK_f, evK_some, appK_eq, srun_nil, srun_cons, sk_take, sk_pick, get_mk, raw_slot, raw_lit, put_some, wb_nil, ev_take, ev_pick, bin_neq, ro_bool, got_int, List.map_cons, List.map_nil, List.getD_cons_zero, List.getD_cons_succ, List.set_cons_zero, List.set_cons_succ, Bool.false_eq_true, ↓reduceIte, Bool.not_true]
      refine swp_lp (fun S => ∃ (i : Nat), i ≤ ch.length ∧ (ch.take i).all (wth MX) = true ∧
          S = ⟨[.undef, .ptr st.length 0, .undef, .undef, .undef, .int .i64 i] ++ List.replicate 74 .undef, st ++ [.cells [.str path, .bool true, .int .i64 size, cv, .int .i64 dig, .int .i64 cl, .int .i64 cr]]⟩)
          (fun S => match S.get 5 with | .int _ k => ((ch.length : Int) - k).toNat | _ => 0)
          ⟨[.undef, .ptr st.length 0, .undef, .undef, .undef, .int .i64 0] ++ List.replicate 74 .undef, st ++ [.cells [.str path, .bool true, .int .i64 size, cv, .int .i64 dig, .int .i64 cl, .int .i64 cr]]⟩ ?_ ⟨0, Nat.zero_le _, rfl, rfl⟩ ?_
      · refine Forget.of ?_
        repeat first | exact fg_e | refine fg_d ?_ | refine fg_k rfl ?_
      rintro S ⟨i, hi, hall, rfl⟩
      by_cases him : i = ch.length
      · have hd : decide ((i : Int) < (ch.length : Int)) = false := by rw [decide_eq_false_iff_not]; omega
        rw [him, List.take_length] at hall
        simp (maxSteps := 2000000) (disch := first | omega | (simp only [List.length_append, List.length_cons, List.length_nil, List.length_map] <;> omega)) only [hd, q1, q5, getA0, List.set_cons_zero, List.set_cons_succ, lpK_e, flg_bool, swp_seq, swp_reg, swp_ret, swp_exit, swp_cond, seqK_n, seqK_e, blkK_e, condK_f, evK_some, appK_eq, srun_nil, srun_cons, fin_ret, sk_mv, sk_give, sk_bin, sk_fld, sk_load, sk_lenL, get_mk, raw_slot, raw_lit, put_some, wb_nil, ev_mv, ev_give, ev_fld, bin_lss, ev_ldP, ldP_some, ro_int, ro_bool, List.map_cons, List.map_nil, List.getD_cons_zero, List.getD_cons_succ, List.set_cons_zero, List.set_cons_succ, List.getElem?_cons_zero, List.getElem?_cons_succ, List.length_cons, List.length_nil, List.replicate_succ, List.replicate_zero, List.cons_append, List.nil_append, Bool.false_eq_true, Option.map_some, ↓reduceIte, Nat.zero_add, List.length_append]
        first | exact ⟨_, trim1 ho rfl, by simp [rightP, h1, h2, h34, h5, h6, h7, hall], rfl⟩ | exact ⟨_, trim1 ho rfl, by simp [rightP, h1, h2, h34, h5, h6, h7, hall]⟩ | exact ⟨_, .same, by simp [rightP, h1, h2, h34, h5, h6, h7, hall], rfl⟩
      have hd : decide ((i : Int) < (ch.length : Int)) = true := by rw [decide_eq_true_eq]; omega
      have hil : i < ch.length := by omega
      have z1 := hv.idxB hil .i64
      rw [Nat.mul_one] at z1
      have z2 := hv.ld1 (isv_at (List.getElem?_eq_getElem hil))
      have fin : ((ch.length : Int) - ((i + 1 : Nat) : Int)).toNat < ((ch.length : Int) - (i : Int)).toNat := by omega
      simp (maxSteps := 2000000) (disch := first | omega | (simp only [List.length_append, List.length_cons, List.length_nil, List.length_map] <;> omega)) only [hd, z1, z2, q1, q5, getA0, List.set_cons_zero, List.set_cons_succ, exc_int, sk_idxB, swp_seq, swp_reg, swp_skip, swp_block, swp_cond, seqK_n, condK_t, evK_some, appK_eq, srun_nil, srun_cons, stepK_call, sk_mv, sk_bin, sk_fld, sk_load, sk_lenL, get_mk, raw_slot, raw_lit, put_some, wb_nil, ev_mv, ev_fld, bin_lss, ev_ldP, ldP_some, ro_int, got_int, pubs, pubsFrom, List.map_cons, List.map_nil, List.getD_cons_zero, List.getD_cons_succ, List.set_cons_zero, List.set_cons_succ, List.getElem?_cons_zero, List.getElem?_cons_succ, List.length_cons, List.length_nil, List.replicate_succ, List.replicate_zero, List.cons_append, List.nil_append, Bool.false_eq_true, Option.map_some, ↓reduceIte, Nat.zero_add, List.length_append]
      refine callK_intro (.inl r35) ?_
      cases hw : wth 4294967295 ch[i] with
      | false =>
        have hall2 : ch.all (wth MX) = false := by
          rw [Bool.eq_false_iff]
          intro h
          rw [all_iff] at h
          rw [h i ch[i] (List.getElem?_eq_getElem hil)] at hw
          cases hw
        simp (maxSteps := 2000000) (disch := first | omega | (simp only [List.length_append, List.length_cons, List.length_nil, List.length_map] <;> omega)) only [List.set_cons_zero, List.set_cons_succ, lpK_r, flg_bool, swp_seq, swp_reg, swp_ret, swp_cond, seqK_n, seqK_r, blkK_r, condK_t, evK_some, appK_eq, appC_eq, srun_nil, srun_cons, fin_ret, sk_give, sk_un, get_mk, raw_slot, raw_lit, put_some, wb_nil, ev_give, ev_not, ro_bool, List.map_cons, List.map_nil, List.getD_cons_zero, List.getD_cons_succ, List.set_cons_zero, List.set_cons_succ, Bool.false_eq_true, ↓reduceIte, Bool.not_false]
        first | exact ⟨_, trim1 ho rfl, by simp [rightP, h1, h2, h34, h5, h6, h7, hall2], rfl⟩ | exact ⟨_, trim1 ho rfl, by simp [rightP, h1, h2, h34, h5, h6, h7, hall2]⟩ | exact ⟨_, .same, by simp [rightP, h1, h2, h34, h5, h6, h7, hall2], rfl⟩
      | true =>
        simp (maxSteps := 2000000) (disch := first | omega | (simp only [List.length_append, List.length_cons, List.length_nil, List.length_map] <;> omega)) only [List.set_cons_zero, List.set_cons_succ, lpK_n, flg_int, swp_reg, swp_skip, swp_cond, seqK_n, blkK_n, condK_f, evK_some, appK_eq, appC_eq, srun_nil, srun_cons, sk_mv, sk_give, sk_bin, sk_un, get_mk, raw_slot, raw_lit, put_some, wb_nil, ev_mv, ev_give, ev_not, bin_add, ro_int, List.map_cons, List.map_nil, List.getD_cons_zero, List.getD_cons_succ, List.set_cons_zero, List.set_cons_succ, Bool.false_eq_true, ↓reduceIte, Bool.not_true, wrap_i64]
        refine ⟨_, ?_, ⟨i + 1, by omega, by rw [← List.take_append_getElem hil, List.all_append, hall]; simp [hw], rfl⟩, by exact fin⟩
        refine Forget.of ?_
        repeat first | exact fg_e | refine fg_d ?_ | refine fg_k rfl ?_
def O33 : Orc := O32.add 36 (StC KPiece)
theorem s33 : Sound Tryd.prog O33 := s32.addS c36 (by kernel_rfl) (by
  rintro args r st ⟨p, hp, ho, rfl, rfl⟩
  exact ⟨by simp [sf36], g36 p st hp ho⟩)
end Go.Sh.F
namespace Go.Sh.F
open Go.PathLaw Go.Proofs
theorem rows_iff : ∀ l : List Pc, rows l = true ↔ ∀ (j : Nat) (z : Pc), l[j]? = some z → rightP z = true ∧ ∀ y, 0 < j → l[j - 1]? = some y → lt y.path z.path = true
  | [] => by simp [rows]
  | [p] => by
    constructor
    · intro h j z hz
      cases j with
      | zero => simp at hz; subst hz; exact ⟨h, fun y h0 => by omega⟩
      | succ j => simp at hz
    · intro h; exact (h 0 p rfl).1
  | p :: q :: r => by
    have ih := rows_iff (q :: r)
    rw [rows, Bool.and_eq_true, Bool.and_eq_true, ih]
    constructor
    · rintro ⟨⟨h1, h2⟩, h3⟩ j z hz
      cases j with
      | zero => simp at hz; subst hz; exact ⟨h1, fun y h0 => by omega⟩
      | succ j =>
        rw [List.getElem?_cons_succ] at hz
        refine ⟨(h3 j z hz).1, fun y _ hy => ?_⟩
        rw [Nat.add_sub_cancel] at hy
        cases j with
        | zero => simp at hy hz; subst hy; subst hz; exact h2
        | succ j =>
          rw [List.getElem?_cons_succ] at hy
          exact (h3 (j + 1) z hz).2 y (by omega) (by rw [Nat.add_sub_cancel]; exact hy)
    · intro h
      refine ⟨⟨(h 0 p rfl).1, (h 1 q rfl).2 p (by omega) rfl⟩, fun j z hz => ⟨(h (j + 1) z (by simpa using hz)).1, fun y h0 hy => (h (j + 1) z (by simpa using hz)).2 y (by omega) ?_⟩⟩
      rw [Nat.add_sub_cancel]
      obtain ⟨j, rfl⟩ : ∃ k, j = k + 1 := ⟨j - 1, by omega⟩
      simpa using hy
def rowsTo (l : List Pc) (i : Nat) : Prop := ∀ (j : Nat) (z : Pc), j < i → l[j]? = some z → rightP z = true ∧ ∀ y, 0 < j → l[j - 1]? = some y → lt y.path z.path = true
theorem rowsTo_all {l : List Pc} (h : rowsTo l l.length) : rows l = true := (rows_iff l).2 fun j z hz => h j z (List.getElem?_eq_some_iff.1 hz).1 hz
theorem rowsTo_succ {l : List Pc} {i : Nat} (h : rowsTo l i) (hi : i < l.length) (h1 : rightP l[i] = true) (h2 : ∀ h0 : i - 1 < l.length, 0 < i → lt l[i - 1].path l[i].path = true) : rowsTo l (i + 1) := by
  intro j z hj hz
  by_cases e : j = i
  · subst e
    rw [List.getElem?_eq_getElem hi] at hz
    obtain rfl := Option.some.inj hz
    refine ⟨h1, fun y h0 hy => ?_⟩
    rw [List.getElem?_eq_getElem (by omega)] at hy
    obtain rfl := Option.some.inj hy
    exact h2 (by omega) h0
  · exact h j z (by omega) hz
theorem rowsTo_not {l : List Pc} {i : Nat} (hi : i < l.length) (h : ¬ (rightP l[i] = true ∧ ∀ h0 : i - 1 < l.length, 0 < i → lt l[i - 1].path l[i].path = true)) : rows l = false := by
  rw [Bool.eq_false_iff]
  intro hr
  rw [rows_iff] at hr
  have := hr i l[i] (List.getElem?_eq_getElem hi)
  exact h ⟨this.1, fun h0 h1 => this.2 _ h1 (List.getElem?_eq_getElem h0)⟩
theorem ro_pc {st : List Ob} {p : Pc} (h : p.ok st) : ro (.agg p.cells) = .agg p.cells := by
  obtain ⟨q1, q2, q3, q4, q6, q7⟩ := h.1.facts
  simp only [Pc.cells, ro_agg, List.map_cons, List.map_nil, ro1_str, ro1_bool, ro1_int, q6]
theorem ro1_pc {st : List Ob} {p : Pc} (h : p.ok st) : p.cells.map ro1 = p.cells := by
  obtain ⟨q1, q2, q3, q4, q6, q7⟩ := h.1.facts
  simp only [Pc.cells, List.map_cons, List.map_nil, ro1_str, ro1_bool, ro1_int, q6]
theorem cell_pc {st : List Ob} {p : Pc} (h : p.ok st) : p.cells.all isCell = true := by
  obtain ⟨q1, q2, q3, q4, q6, q7⟩ := h.1.facts
  simp only [Pc.cells, List.all_cons, List.all_nil, cell_str, cell_bool, cell_int, q7, Bool.and_self]
/-- A manifest's row, read at a place. -/
theorem Mf.ok.at' {st : List Ob} {m : Mf} (h : m.ok st) {i : Nat} (hi : i < m.ps.length) (x : List Ob) :
    ev (st ++ x) (.load 7 true) [adr m.pv (i * 7)] = some (.agg m.ps[i].cells, [], st ++ x) := by
  rw [h.1.ldN (by omega) (by omega) x, flat_part (pc_len _) (List.getElem?_eq_getElem hi), ro_pc (h.2.2 _ (List.getElem_mem hi))]
theorem Mf.ok.path {st : List Ob} {m : Mf} (h : m.ok st) {i : Nat} (hi : i < m.ps.length) (x : List Ob) :
    ev (st ++ x) (.load 1 false) [adr m.pv (i * 7)] = some (.str m.ps[i].path, [], st ++ x) := by
  have := flat_get (pc_len m.ps) (j := 0) (List.getElem?_eq_getElem hi) (by omega)
  rw [Nat.add_zero] at this
  rw [h.1.ld1 this x]; rfl
theorem Mf.ok.chs {st : List Ob} {m : Mf} (h : m.ok st) {i : Nat} (hi : i < m.ps.length) (x : List Ob) :
    ev (st ++ x) (.load 1 false) [adr m.pv (i * 7 + 3)] = some (m.ps[i].cv, [], st ++ x) := by
  have := flat_get (pc_len m.ps) (j := 3) (List.getElem?_eq_getElem hi) (by omega)
  rw [h.1.ld1 this x]
  show some (ro m.ps[i].cv, _, _) = _
  rw [(h.2.2 _ (List.getElem_mem hi)).1.facts.1]
theorem Mf.ok.f0 {st : List Ob} {m : Mf} (h : m.ok st) {i : Nat} (hi : i < m.ps.length) (s : List Ob) : ev s (.fld 0) [adr m.pv (i * 7)] = some (adr m.pv (i * 7), [], s) := h.1.fld (by omega) (i * 7) 0 s
theorem Mf.ok.f3 {st : List Ob} {m : Mf} (h : m.ok st) {i : Nat} (hi : i < m.ps.length) (s : List Ob) : ev s (.fld 3) [adr m.pv (i * 7)] = some (adr m.pv (i * 7 + 3), [], s) := h.1.fld (by omega) (i * 7) 3 s
theorem idOks_flat {st : List Ob} {l : List Pc} (h : ∀ p ∈ l, p.ok st) : idOks st.length (l.flatMap Pc.cells) = true := by
  induction l with
  | nil => rfl
  | cons p l ih =>
    rw [List.flatMap_cons, idOks_app, idOks_pc (h p List.mem_cons_self), ih (fun q hq => h q (List.mem_cons_of_mem _ hq))]; rfl
theorem idOks_mf {st : List Ob} {m : Mf} (h : m.ok st) : idOks st.length m.cells = true := by
  have := h.1.idOk (idOks_flat h.2.2)
  simp only [Mf.cells, idOks, idOk, this, Bool.and_self]
theorem okM {st : List Ob} {m : Mf} (h : m.ok st) (ho : okSt st) : okSt (st ++ [.cells m.cells]) := by
  refine okSt_appL ho ?_
  have := idOks_mf (h.mono [.cells m.cells])
  rw [List.length_append] at this
  simp only [List.all_cons, List.all_nil, Bool.and_true, obOk]
  exact this
def fewM (m : Mf) : Bool := decide (m.ps.length ≤ 60) && m.ps.all fun p => decide (p.path.length ≤ 200) && decide (p.ch.length ≤ 30)
theorem pall_iff {l : List Pc} {p : Pc → Bool} : l.all p = true ↔ ∀ (j : Nat) (x : Pc), l[j]? = some x → p x = true := by
  rw [List.all_eq_true]
  constructor
  · intro h j x hx
    exact h x (List.mem_of_getElem? hx)
  · intro h x hx
    obtain ⟨j, hj⟩ := List.getElem?_of_mem hx
    exact h j x hj
set_option maxHeartbeats 8000000 in
theorem g20 (O : Orc) (m : Mf) (st : List Ob) (hm : m.ok st) (ho : okSt st) : swpF O sf20 [.agg m.cells] st (fun r st' => r = .bool (fewM m) ∧ st' = st) := by
  have a1 := fun i (hi : i < m.ps.length) => hm.path hi [.cells m.cells]
  have a2 := fun i (hi : i < m.ps.length) => hm.chs hi [.cells m.cells]
  have f0 := fun i (hi : i < m.ps.length) => hm.f0 hi
  have f3 := fun i (hi : i < m.ps.length) => hm.f3 hi
  have ib := fun i (hi : i < m.ps.length) => hm.1.idxB hi .i64
  have cq := fun i (hi : i < m.ps.length) => (hm.2.2 _ (List.getElem_mem hi)).1.lenL
  have cf := fun i (hi : i < m.ps.length) => (hm.2.2 _ (List.getElem_mem hi)).1.facts
  have hb := hm.2.1
  obtain ⟨q1, q2, q3, q4, q6, q7⟩ := hm.1.facts
  have q5 := hm.1.lenL
  obtain ⟨au, ve, pr, ep, ne, se, sh, pv, ps⟩ := m
  simp only [Mf.cells] at a1 a2 f0 f3 ib q1 q2 q3 q4 q5 q6 q7 hb cq cf ⊢
  rcases bt (decide (60 < (ps.length : Int))) with h1 | h1
  · have e1 : decide (ps.length ≤ 60) = false := by simp at h1 ⊢; omega
    simp (maxSteps := 2000000) (disch := first | omega | (simp only [List.length_append, List.length_cons, List.length_nil, List.length_map] <;> omega)) only [sf20, h1, q1, q5, q6, q7, cv_agg, cell_int, getA0, List.set_cons_zero, List.set_cons_succ, flg_bool, exc_agg, swp_seq, swp_reg, swp_ret, swp_cond, seqK_n, seqK_r, condK_t, evK_some, appK_eq, srun_nil, srun_cons, fin_ret, swpF_eq, sk_give, sk_bin, sk_fld, sk_load, sk_lenL, sk_box, get_mk, raw_slot, raw_lit, put_some, wb_nil, ev_give, ev_fld, bin_gtr, ev_box, ev_ldP, ldP_some, ro_bool, ro1_int, got_agg, List.map_cons, List.map_nil, List.getD_cons_zero, List.getD_cons_succ, List.set_cons_zero, List.set_cons_succ, List.getElem?_cons_zero, List.getElem?_cons_succ, List.length_cons, List.length_nil, List.replicate_succ, List.replicate_zero, List.cons_append, List.nil_append, Nat.reduceSub, Bool.false_eq_true, Option.map_some, ↓reduceIte, List.all_cons, List.all_nil, Bool.and_self, Nat.zero_add, gt_iff_lt]
    first | exact ⟨_, trim1 ho rfl, by simp [fewM, e1], rfl⟩ | exact ⟨_, trim1 ho rfl, by simp [fewM, e1]⟩ | exact ⟨_, .same, by simp [fewM, e1], rfl⟩
  have e1 : decide (ps.length ≤ 60) = true := by simp at h1 ⊢; omega
  simp (maxSteps := 2000000) (disch := first | omega | (simp only [List.length_append, List.length_cons, List.length_nil, List.length_map] <;> omega)) only [sf20, h1, q1, q5, q6, q7, cv_agg, cell_int, getA0, List.set_cons_zero, List.set_cons_succ, flg_bool, exc_int, exc_agg, swp_seq, swp_reg, swp_skip, swp_block, swp_cond, seqK_n, condK_f, evK_some, appK_eq, srun_nil, srun_cons, swpF_eq, sk_take, sk_give, sk_bin, sk_fld, sk_load, sk_lenL, sk_box, get_mk, raw_slot, raw_lit, put_some, wb_nil, ev_take, ev_give, ev_fld, bin_gtr, ev_box, ev_ldP, ldP_some, ro_bool, ro1_int, got_int, got_agg, List.map_cons, List.map_nil, List.getD_cons_zero, List.getD_cons_succ, List.set_cons_zero, List.set_cons_succ, List.getElem?_cons_zero, List.getElem?_cons_succ, List.length_cons, List.length_nil, List.replicate_succ, List.replicate_zero, List.cons_append, List.nil_append, Nat.reduceSub, Bool.false_eq_true, Option.map_some, ↓reduceIte, List.all_cons, List.all_nil, Bool.and_self, Nat.zero_add, gt_iff_lt]
  refine swp_lp (fun S => ∃ (i : Nat), i ≤ ps.length ∧ (ps.take i).all (fun p => decide (p.path.length ≤ 200) && decide (p.ch.length ≤ 30)) = true ∧
      S = ⟨[.undef, .ptr st.length 0, .undef, .int .i64 i] ++ List.replicate 29 .undef, st ++ [.cells [.int .i64 au, .int .i64 ve, .int .i64 pr, .int .i64 ep, .int .i64 ne, .int .i64 se, .int .i64 sh, pv]]⟩)
      (fun S => match S.get 3 with | .int _ k => ((ps.length : Int) - k).toNat | _ => 0)
      ⟨[.undef, .ptr st.length 0, .undef, .int .i64 0] ++ List.replicate 29 .undef, st ++ [.cells [.int .i64 au, .int .i64 ve, .int .i64 pr, .int .i64 ep, .int .i64 ne, .int .i64 se, .int .i64 sh, pv]]⟩ ?_ ⟨0, Nat.zero_le _, rfl, rfl⟩ ?_
  · refine Forget.of ?_
    repeat first | exact fg_e | refine fg_d ?_ | refine fg_k rfl ?_
  rintro S ⟨i, hi, hall, rfl⟩
  by_cases him : i = ps.length
  · have hd : decide ((i : Int) < (ps.length : Int)) = false := by rw [decide_eq_false_iff_not]; omega
    rw [him, List.take_length] at hall
    have e2 : fewM ⟨au, ve, pr, ep, ne, se, sh, pv, ps⟩ = true := by unfold fewM; simp only [e1, hall, Bool.and_self]
    rw [e2]
    simp (maxSteps := 2000000) (disch := first | omega | (simp only [List.length_append, List.length_cons, List.length_nil, List.length_map] <;> omega)) only [hd, q1, q5, getA0, List.set_cons_zero, List.set_cons_succ, lpK_e, flg_bool, swp_seq, swp_reg, swp_ret, swp_exit, swp_cond, seqK_n, seqK_e, blkK_e, condK_f, evK_some, appK_eq, srun_nil, srun_cons, fin_ret, sk_mv, sk_give, sk_bin, sk_fld, sk_load, sk_lenL, get_mk, raw_slot, raw_lit, put_some, wb_nil, ev_mv, ev_give, ev_fld, bin_lss, ev_ldP, ldP_some, ro_int, ro_bool, List.map_cons, List.map_nil, List.getD_cons_zero, List.getD_cons_succ, List.set_cons_zero, List.set_cons_succ, List.getElem?_cons_zero, List.getElem?_cons_succ, List.length_cons, List.length_nil, List.replicate_succ, List.replicate_zero, List.cons_append, List.nil_append, true_and, Bool.false_eq_true, Option.map_some, ↓reduceIte, Nat.zero_add, List.length_append]
    first | exact ⟨_, trim1 ho rfl⟩ | exact ⟨_, trim1 ho rfl, rfl⟩ | exact ⟨_, trim1 ho rfl, rfl, rfl⟩ | exact ⟨_, trim1 ho rfl, by simp, rfl⟩ | exact ⟨_, trim1 ho rfl, by simp⟩
  have hd : decide ((i : Int) < (ps.length : Int)) = true := by rw [decide_eq_true_eq]; omega
  have hil : i < ps.length := by omega
  have fin : ((ps.length : Int) - ((i + 1 : Nat) : Int)).toNat < ((ps.length : Int) - (i : Int)).toNat := by omega
  have b1 := a1 i hil
  have b2 := a2 i hil
  have b3 := f0 i hil
  have b4 := f3 i hil
  have b5 := ib i hil
  have b6 := cq i hil
  obtain ⟨c1, c2, c3, c4, c6, c7⟩ := cf i hil
  have hno : (decide (ps[i].path.length ≤ 200) && decide (ps[i].ch.length ≤ 30)) = false → fewM ⟨au, ve, pr, ep, ne, se, sh, pv, ps⟩ = false := by
    intro h
    rw [Bool.eq_false_iff]
    intro h2
    unfold fewM at h2
    rw [Bool.and_eq_true, pall_iff] at h2
    rw [h2.2 i ps[i] (List.getElem?_eq_getElem hil)] at h
    cases h
  rcases bt (decide (200 < (ps[i].path.length : Int))) with h2 | h2
  · rw [hno (by simp at h2 ⊢; omega)]
    simp (maxSteps := 2000000) (disch := first | omega | (simp only [List.length_append, List.length_cons, List.length_nil, List.length_map] <;> omega)) only [hd, h2, b1, b3, b5, q1, q5, getA0, List.set_cons_zero, List.set_cons_succ, lpK_r, flg_bool, sk_idxB, swp_seq, swp_reg, swp_skip, swp_ret, swp_block, swp_cond, seqK_n, seqK_r, blkK_r, condK_t, evK_some, appK_eq, grd_t, srun_nil, srun_cons, stepK_grd, fin_ret, sk_mv, sk_give, sk_pick, sk_bin, sk_fld, sk_load, sk_lenS, sk_lenL, get_mk, raw_slot, raw_lit, put_some, wb_nil, ev_mv, ev_give, ev_pick, ev_fld, ev_lenS, bin_lss, bin_gtr, ev_ldP, ldP_some, ro_int, ro_bool, List.map_cons, List.map_nil, List.getD_cons_zero, List.getD_cons_succ, List.set_cons_zero, List.set_cons_succ, List.getElem?_cons_zero, List.getElem?_cons_succ, List.length_cons, List.length_nil, List.replicate_succ, List.replicate_zero, List.cons_append, List.nil_append, true_and, Bool.false_eq_true, Option.map_some, ↓reduceIte, Nat.zero_add, reduceCtorEq, gt_iff_lt, List.length_append]
    first | exact ⟨_, trim1 ho rfl⟩ | exact ⟨_, trim1 ho rfl, rfl⟩ | exact ⟨_, trim1 ho rfl, rfl, rfl⟩ | exact ⟨_, trim1 ho rfl, by simp, rfl⟩ | exact ⟨_, trim1 ho rfl, by simp⟩
  rcases bt (decide (30 < (ps[i].ch.length : Int))) with h3 | h3
  · rw [hno (by simp at h2 h3 ⊢; omega)]
    simp (maxSteps := 2000000) (disch := first | omega | (simp only [List.length_append, List.length_cons, List.length_nil, List.length_map] <;> omega)) only [hd, h2, h3, b1, b2, b3, b4, b5, b6, q1, q5, getA0, List.set_cons_zero, List.set_cons_succ, lpK_r, flg_bool, exc_int, sk_idxB, swp_seq, swp_reg, swp_skip, swp_ret, swp_block, swp_cond, seqK_n, seqK_r, blkK_r, condK_t, evK_some, appK_eq, grd_t, srun_nil, srun_cons, stepK_grd, fin_ret, sk_mv, sk_take, sk_give, sk_pick, sk_bin, sk_fld, sk_load, sk_lenS, sk_lenL, get_mk, raw_slot, raw_lit, put_some, wb_nil, ev_mv, ev_take, ev_give, ev_pick, ev_fld, ev_lenS, bin_lss, bin_gtr, ev_ldP, ldP_some, ro_int, ro_bool, got_int, List.map_cons, List.map_nil, List.getD_cons_zero, List.getD_cons_succ, List.set_cons_zero, List.set_cons_succ, List.getElem?_cons_zero, List.getElem?_cons_succ, List.length_cons, List.length_nil, List.replicate_succ, List.replicate_zero, List.cons_append, List.nil_append, true_and, Bool.false_eq_true, Option.map_some, ↓reduceIte, Nat.zero_add, gt_iff_lt, List.length_append]
    first | exact ⟨_, trim1 ho rfl⟩ | exact ⟨_, trim1 ho rfl, rfl⟩ | exact ⟨_, trim1 ho rfl, rfl, rfl⟩ | exact ⟨_, trim1 ho rfl, by simp, rfl⟩ | exact ⟨_, trim1 ho rfl, by simp⟩
  simp (maxSteps := 2000000) (disch := first | omega | (simp only [List.length_append, List.length_cons, List.length_nil, List.length_map] <;> omega)) only [hd, h2, h3, b1, b2, b3, b4, b5, b6, q1, q5, getA0, List.set_cons_zero, List.set_cons_succ, lpK_n, flg_int, exc_int, sk_idxB, swp_seq, swp_reg, swp_skip, swp_block, swp_cond, seqK_n, blkK_n, condK_t, condK_f, evK_some, appK_eq, grd_t, srun_nil, srun_cons, stepK_grd, sk_mv, sk_take, sk_give, sk_pick, sk_bin, sk_fld, sk_load, sk_lenS, sk_lenL, get_mk, raw_slot, raw_lit, put_some, wb_nil, ev_mv, ev_take, ev_give, ev_pick, ev_fld, ev_lenS, bin_add, bin_lss, bin_gtr, ev_ldP, ldP_some, ro_int, ro_bool, got_int, List.map_cons, List.map_nil, List.getD_cons_zero, List.getD_cons_succ, List.set_cons_zero, List.set_cons_succ, List.getElem?_cons_zero, List.getElem?_cons_succ, List.length_cons, List.length_nil, List.replicate_succ, List.replicate_zero, List.cons_append, List.nil_append, Bool.false_eq_true, Option.map_some, ↓reduceIte, Nat.zero_add, gt_iff_lt, wrap_i64, List.length_append]
  refine ⟨_, ?_, ⟨i + 1, by omega, ?_, rfl⟩, by exact fin⟩
  · refine Forget.of ?_
    repeat first | exact fg_e | refine fg_d ?_ | refine fg_k rfl ?_
  · rw [← List.take_append_getElem hil, List.all_append, hall]
    simp at h2 h3 ⊢; omega
end Go.Sh.F
