/-
  Paths: the program's functions, in the shadow machine (Names to Sorted).
-/
import Derived.Test.YtdbpcmapcmchbaaDoorQ1
set_option linter.unusedSimpArgs false
set_option linter.unusedVariables false
namespace Go.Sh.F
open Go.PathLaw Go.Proofs
def KName : List SV → SV → Prop := fun args r => ∃ s : List UInt8, sm s ∧ args = [.str s] ∧ r = .bool (nameB s)
def O6 : Orc := O5.add 14 (FnC KName)
theorem s6 : Sound Tryd.prog O6 := s5.addP c14 (by kernel_rfl) (by
  rintro args r ⟨s, hs, rfl, rfl⟩
  exact ⟨by simp [sf14], fun st => f14 s hs st⟩)
theorem o6_27 {s : List UInt8} (hs : sm s) (st : List Ob) : O6 27 [.str s, .str [47]] st (.sl (ssv (spl s)) (spl s).length .ro) st := (.inl (.inl (.inl (.inl (.inl (.inr ⟨rfl, rfl, s, by unfold sm at hs; omega, rfl, rfl⟩))))))
theorem spl_sm {s x : List UInt8} (hs : sm s) (hx : x ∈ spl s) : sm x := by
  have : ∀ s : List UInt8, ∀ x ∈ spl s, x.length ≤ s.length := by
    intro s
    induction s with
    | nil => intro x hx; simp [spl] at hx; subst hx; simp
    | cons c r ih =>
      intro x hx
      by_cases hc : c = 47
      · subst hc
        rw [spl_stroke] at hx
        rcases List.mem_cons.1 hx with rfl | hx
        · simp
        · have := ih x hx; simp; omega
      · cases hs : spl r with
        | nil => exact absurd hs (spl_ne r)
        | cons h t =>
          rw [spl_cons hc hs] at hx
          rw [hs] at ih
          rcases List.mem_cons.1 hx with rfl | hx
          · have := ih h List.mem_cons_self; simp; omega
          · have := ih x (List.mem_cons_of_mem _ hx); simp; omega
  have := this s x hx
  unfold sm at *; omega
theorem spl_length_le : ∀ s : List UInt8, (spl s).length ≤ s.length + 1
  | [] => by simp [spl]
  | c :: r => by
    have ih := spl_length_le r
    by_cases hc : c = 47
    · subst hc
      rw [spl_stroke]; simp; omega
    · cases hs : spl r with
      | nil => exact absurd hs (spl_ne r)
      | cons h t =>
        rw [spl_cons hc hs]
        rw [hs] at ih
        simp at ih ⊢; omega
/-- What Names hands back. -/
def namesV (s : List UInt8) : SV := if rightB s = true then .sl (ssv (spl s)) (spl s).length .ro else .nilS
theorem namesV_rdS (s : List UInt8) : rdS (namesV s) (namesOf s) := by
  unfold namesV
  cases h : rightB s with
  | true => rw [if_pos rfl, names_right h]; exact .inr rfl
  | false => rw [if_neg (by simp), names_wrong h]; exact .inl ⟨rfl, rfl⟩
set_option maxHeartbeats 8000000 in
theorem f11 (s : List UInt8) (hs : sm s) (st : List Ob) : swpF O6 sf11 [.str s] st (fun r st' => r = namesV s ∧ st' = st) := by
  have hll := spl_length_le s
  simp (maxSteps := 2000000) (disch := first | omega | (simp only [List.length_append, List.length_cons, List.length_nil, List.length_map] <;> omega)) only [sf11, flg_nilS, exc_str, swp_seq, swp_reg, seqK_n, evK_some, appK_eq, srun_nil, srun_cons, stepK_call, swpF_eq, sk_mv, sk_give, get_mk, raw_slot, raw_lit, put_some, wb_nil, ev_mv, ev_give, ro_str, ro_nilS, got_str, pubs, pubsFrom, List.map_cons, List.map_nil, List.getD_cons_zero, List.set_cons_zero, List.set_cons_succ, List.length_cons, List.length_nil, List.replicate_succ, List.replicate_zero, List.cons_append, List.nil_append, Nat.reduceSub, Bool.false_eq_true, ↓reduceIte, Nat.zero_add]
  refine callK_intro (o6_27 hs st) ?_
  by_cases h4 : (spl s).length ≤ 4
  case neg =>
    have d1 : decide ((4 : Int) < ((spl s).length : Int)) = true := by rw [decide_eq_true_eq]; omega
    have hr : rightB s = false := by rw [rightB, decide_eq_false h4]; rfl
    have e : namesV s = .nilS := by unfold namesV; rw [hr]; rfl
    rw [e]
    simp (maxSteps := 2000000) (disch := first | omega | (simp only [List.length_append, List.length_cons, List.length_nil, List.length_map] <;> omega)) only [d1, flg_nilS, flg_ro, swp_seq, swp_reg, swp_ret, swp_cond, seqK_n, seqK_r, condK_t, evK_some, appK_eq, appC_eq, srun_nil, srun_cons, fin_ret, sk_mv, sk_give, sk_bin, sk_lenL, get_mk, raw_slot, raw_lit, put_some, wb_nil, ev_mv, ev_give, ev_lenL, bin_gtr, ro_nilS, ro_ro, List.map_cons, List.map_nil, List.getD_cons_zero, List.getD_cons_succ, List.set_cons_zero, List.set_cons_succ, true_and, Bool.false_eq_true, ↓reduceIte, gt_iff_lt]
    first | exact ⟨_, .same⟩ | exact ⟨_, .same, rfl⟩ | exact ⟨_, .same, rfl, rfl⟩
  have d1 : decide ((4 : Int) < ((spl s).length : Int)) = false := by rw [decide_eq_false_iff_not]; omega
  have hr : rightB s = (spl s).all nameB := by rw [rightB, decide_eq_true h4, Bool.true_and]
  have hm : ∀ x ∈ spl s, sm x := fun x hx => spl_sm hs hx
  have hnv : namesV s = if (spl s).all nameB = true then .sl (ssv (spl s)) (spl s).length .ro else .nilS := by unfold namesV; rw [hr]
  rw [hnv]
  generalize spl s = l at *
  have hsl := ssv_len l
  simp (maxSteps := 2000000) (disch := first | omega | (simp only [List.length_append, List.length_cons, List.length_nil, List.length_map] <;> omega)) only [d1, flg_ro, swp_seq, swp_reg, swp_skip, swp_block, swp_cond, seqK_n, condK_f, evK_some, appK_eq, appC_eq, srun_nil, srun_cons, sk_mv, sk_give, sk_bin, sk_lenL, get_mk, raw_slot, raw_lit, put_some, wb_nil, ev_mv, ev_give, ev_lenL, bin_gtr, ro_int, ro_ro, List.map_cons, List.map_nil, List.getD_cons_zero, List.getD_cons_succ, List.set_cons_zero, List.set_cons_succ, Bool.false_eq_true, ↓reduceIte, gt_iff_lt]
  refine swp_lp (fun S => ∃ (i : Nat), i ≤ l.length ∧ (l.take i).all nameB = true ∧
      S = ⟨[.str s, .undef, .nilS, .sl (ssv l) l.length .ro, .undef, .undef, .undef, .undef, .undef, .undef, .undef, .sl (ssv l) l.length .ro, .int .i64 l.length, .int .i64 i] ++ List.replicate 8 .undef, st⟩)
      (fun S => match S.get 13 with | .int _ k => ((l.length : Int) - k).toNat | _ => 0)
      ⟨[.str s, .undef, .nilS, .sl (ssv l) l.length .ro, .undef, .undef, .undef, .undef, .undef, .undef, .undef, .sl (ssv l) l.length .ro, .int .i64 l.length, .int .i64 0] ++ List.replicate 8 .undef, st⟩ ?_ ⟨0, Nat.zero_le _, rfl, rfl⟩ ?_
  · refine Forget.of ?_
    repeat first | exact fg_e | refine fg_d ?_ | refine fg_k rfl ?_
  rintro S ⟨i, hi, hall, rfl⟩
  by_cases him : i = l.length
  · have hd : decide ((i : Int) < (l.length : Int)) = false := by rw [decide_eq_false_iff_not]; omega
    rw [him, List.take_length] at hall
    rw [hall]
    simp (maxSteps := 2000000) (disch := first | omega | (simp only [List.length_append, List.length_cons, List.length_nil, List.length_map] <;> omega)) only [hd, lpK_e, flg_ro, swp_seq, swp_reg, swp_ret, swp_exit, swp_cond, seqK_n, seqK_e, blkK_e, condK_f, evK_some, appK_eq, srun_nil, srun_cons, fin_ret, sk_mv, sk_give, sk_bin, get_mk, raw_slot, put_some, wb_nil, ev_mv, ev_give, bin_lss, ro_ro, List.map_cons, List.map_nil, List.getD_cons_zero, List.getD_cons_succ, List.set_cons_zero, List.set_cons_succ, List.replicate_succ, List.replicate_zero, List.cons_append, List.nil_append, true_and, Bool.false_eq_true, ↓reduceIte]
    first | exact ⟨_, .same⟩ | exact ⟨_, .same, rfl⟩ | exact ⟨_, .same, rfl, rfl⟩
  have hd : decide ((i : Int) < (l.length : Int)) = true := by rw [decide_eq_true_eq]; omega
  have hil : i < l.length := by omega
  have hat := ssv_at l i l[i] (List.getElem?_eq_getElem hil)
  have fin : ((l.length : Int) - ((i + 1 : Nat) : Int)).toNat < ((l.length : Int) - (i : Int)).toNat := by omega
  have k14 : O6 14 [.str l[i]] st (.bool (nameB l[i])) st := Orc.here ⟨_, hm _ (List.getElem_mem hil), rfl, rfl⟩
  simp (maxSteps := 2000000) (disch := first | omega | (simp only [List.length_append, List.length_cons, List.length_nil, List.length_map] <;> omega)) only [hd, hat, Int.toNat_natCast, flg_str, exc_str, sk_idxB, idxB_ro, swp_seq, swp_reg, swp_skip, swp_block, swp_cond, seqK_n, condK_t, evK_some, appK_eq, srun_nil, srun_cons, stepK_call, sk_mv, sk_give, sk_bin, sk_load, get_mk, raw_slot, put_some, wb_nil, ev_mv, ev_give, bin_lss, ev_loadE, ro_str, got_str, pubs, pubsFrom, List.map_cons, List.map_nil, List.getD_cons_zero, List.getD_cons_succ, List.set_cons_zero, List.set_cons_succ, List.replicate_succ, List.replicate_zero, List.cons_append, List.nil_append, Bool.false_eq_true, Option.map_some, ↓reduceIte, Nat.mul_one]
  refine callK_intro k14 ?_
  cases hn : nameB l[i] with
  | false =>
    have hf : l.all nameB = false := by
      rw [List.all_eq_false]
      exact ⟨_, List.getElem_mem hil, by rw [hn]; simp⟩
    rw [hf]
    simp (maxSteps := 2000000) (disch := first | omega | (simp only [List.length_append, List.length_cons, List.length_nil, List.length_map] <;> omega)) only [lpK_r, flg_nilS, swp_seq, swp_reg, swp_ret, swp_cond, seqK_n, seqK_r, blkK_r, condK_t, evK_some, appK_eq, appC_eq, srun_nil, srun_cons, fin_ret, sk_give, sk_un, get_mk, raw_slot, raw_lit, put_some, wb_nil, ev_give, ev_not, ro_nilS, List.map_cons, List.map_nil, List.getD_cons_zero, List.getD_cons_succ, List.set_cons_zero, List.set_cons_succ, true_and, Bool.false_eq_true, ↓reduceIte, Bool.not_false]
    first | exact ⟨_, .same⟩ | exact ⟨_, .same, rfl⟩ | exact ⟨_, .same, rfl, rfl⟩
  | true =>
    simp (maxSteps := 2000000) (disch := first | omega | (simp only [List.length_append, List.length_cons, List.length_nil, List.length_map] <;> omega)) only [lpK_n, swp_reg, swp_skip, swp_cond, seqK_n, blkK_n, condK_f, evK_some, appK_eq, appC_eq, srun_nil, srun_cons, sk_mv, sk_bin, sk_un, get_mk, raw_slot, raw_lit, put_some, wb_nil, ev_mv, ev_not, bin_add, ro_int, List.map_cons, List.map_nil, List.getD_cons_zero, List.getD_cons_succ, List.set_cons_zero, List.set_cons_succ, Bool.not_true, wrap_i64]
    refine ⟨_, ?_, ⟨i + 1, by omega, by rw [← List.take_append_getElem hil, List.all_append, hall]; simp [hn], rfl⟩, fin⟩
    refine Forget.of ?_
    repeat first | exact fg_e | refine fg_d ?_ | refine fg_k rfl ?_
def KNames : List SV → SV → Prop := fun args r => ∃ s : List UInt8, sm s ∧ args = [.str s] ∧ r = namesV s
def O7 : Orc := O6.add 11 (FnC KNames)
theorem s7 : Sound Tryd.prog O7 := s6.addP c11 (by kernel_rfl) (by
  rintro args r ⟨s, hs, rfl, rfl⟩
  exact ⟨by simp [sf11], fun st => f11 s hs st⟩)
theorem f16 (s : List UInt8) (hs : sm s) (st : List Ob) : swpF O7 sf16 [.str s] st (fun r st' => r = .bool (rightB s) ∧ st' = st) := by
  obtain ⟨q1, q2, q3, q4, q5⟩ := rdS_facts (namesV_rdS s)
  simp (maxSteps := 2000000) (disch := first | omega | (simp only [List.length_append, List.length_cons, List.length_nil, List.length_map] <;> omega)) only [sf16, flg_bool, exc_str, swp_seq, swp_reg, seqK_n, evK_some, appK_eq, srun_nil, srun_cons, stepK_call, swpF_eq, sk_mv, sk_give, get_mk, raw_slot, raw_lit, put_some, wb_nil, ev_mv, ev_give, ro_bool, ro_str, got_str, pubs, pubsFrom, List.map_cons, List.map_nil, List.getD_cons_zero, List.set_cons_zero, List.set_cons_succ, List.length_cons, List.length_nil, List.replicate_succ, List.replicate_zero, List.cons_append, List.nil_append, Nat.reduceSub, Bool.false_eq_true, ↓reduceIte, Nat.zero_add]
  refine callK_intro (Orc.here ⟨s, hs, rfl, rfl⟩) ?_
  rw [right_names]
  have e : decide ((0 : Int) < ((namesOf s).length : Int)) = decide (0 < (namesOf s).length) := by rw [decide_eq_decide]; omega
  simp (maxSteps := 2000000) (disch := first | omega | (simp only [List.length_append, List.length_cons, List.length_nil, List.length_map] <;> omega)) only [q5, e, flg_bool, swp_ret, seqK_n, evK_some, appK_eq, appC_eq, srun_nil, srun_cons, fin_ret, sk_give, sk_bin, sk_lenL, get_mk, raw_slot, raw_lit, put_some, wb_nil, ev_give, bin_gtr, ro_bool, List.map_cons, List.map_nil, List.getD_cons_zero, List.getD_cons_succ, List.set_cons_zero, List.set_cons_succ, true_and, Bool.false_eq_true, ↓reduceIte, gt_iff_lt]
  first | exact ⟨_, .same⟩ | exact ⟨_, .same, rfl⟩ | exact ⟨_, .same, rfl, rfl⟩
def KRight : List SV → SV → Prop := fun args r => ∃ s : List UInt8, sm s ∧ args = [.str s] ∧ r = .bool (rightB s)
def O8 : Orc := O7.add 16 (FnC KRight)
theorem s8 : Sound Tryd.prog O8 := s7.addP c16 (by kernel_rfl) (by
  rintro args r ⟨s, hs, rfl, rfl⟩
  exact ⟨by simp [sf16], fun st => f16 s hs st⟩)
/-- Names that are few and short enough to be joined. -/
def smL (l : List (List UInt8)) : Prop := l.flatten.length ≤ 134217728 ∧ l.length ≤ 134217728
theorem jn_sm {l : List (List UInt8)} (h : smL l) : sm (jn l) := by
  have := jn_len l
  unfold sm smL at *; omega
theorem f18 (v : SV) (l : List (List UInt8)) (hl : smL l) (hv : rdS v l) (st : List Ob) : swpF O8 sf18 [v] st (fun r st' => r = .str (joinP l) ∧ st' = st) := by
  obtain ⟨q1, q2, q3, q4, q5⟩ := rdS_facts hv
  obtain ⟨t1, t2, t3, t4, t5⟩ := rdS_facts (namesV_rdS (jn l))
  have hjs := jn_sm hl
  have k30 : O8 30 [v, .str [47]] st (.str (jn l)) st := by
    refine (.inl (.inl (.inl (.inl (.inl (.inr ⟨rfl, rfl, v, l, isStrs_of hv, by unfold smL at hl; omega, by unfold smL at hl; omega, by simp, rfl, by rw [join_jn]⟩))))))
  simp (maxSteps := 2000000) (disch := first | omega | (simp only [List.length_append, List.length_cons, List.length_nil, List.length_map] <;> omega)) only [sf18, q1, q2, q3, flg_str, exc_str, swp_seq, swp_reg, seqK_n, evK_some, appK_eq, srun_nil, srun_cons, stepK_call, swpF_eq, sk_mv, sk_give, get_mk, raw_slot, raw_lit, put_some, wb_nil, ev_mv, ev_give, ro_str, got_str, pubs, pubsFrom, List.map_cons, List.map_nil, List.getD_cons_zero, List.set_cons_zero, List.set_cons_succ, List.length_cons, List.length_nil, List.replicate_succ, List.replicate_zero, List.cons_append, List.nil_append, Nat.reduceSub, Bool.false_eq_true, ↓reduceIte, Nat.zero_add]
  refine callK_intro k30 ?_
  simp (maxSteps := 2000000) (disch := first | omega | (simp only [List.length_append, List.length_cons, List.length_nil, List.length_map] <;> omega)) only [flg_str, exc_str, swp_seq, swp_reg, seqK_n, evK_some, appK_eq, appC_eq, srun_nil, srun_cons, stepK_call, sk_mv, sk_give, get_mk, raw_slot, put_some, wb_nil, ev_mv, ev_give, ro_str, got_str, pubs, pubsFrom, List.map_cons, List.map_nil, List.getD_cons_zero, List.getD_cons_succ, List.set_cons_zero, List.set_cons_succ, Bool.false_eq_true, ↓reduceIte]
  refine callK_intro (.inl (Orc.here ⟨jn l, hjs, rfl, rfl⟩)) ?_
  unfold joinP
  by_cases h : (namesOf (jn l)).length = l.length
  · have d : (((namesOf (jn l)).length : Int) != (l.length : Int)) = false := by simp [h]
    rw [if_pos h]
    simp (maxSteps := 2000000) (disch := first | omega | (simp only [List.length_append, List.length_cons, List.length_nil, List.length_map] <;> omega)) only [d, q1, q5, t5, flg_str, swp_seq, swp_reg, swp_skip, swp_ret, swp_cond, seqK_n, condK_f, evK_some, appK_eq, appC_eq, srun_nil, srun_cons, fin_ret, sk_mv, sk_give, sk_bin, sk_lenL, get_mk, raw_slot, put_some, wb_nil, ev_mv, ev_give, bin_neq, ro_str, List.map_cons, List.map_nil, List.getD_cons_zero, List.getD_cons_succ, List.set_cons_zero, List.set_cons_succ, true_and, Bool.false_eq_true, ↓reduceIte]
    first | exact ⟨_, .same⟩ | exact ⟨_, .same, rfl⟩ | exact ⟨_, .same, rfl, rfl⟩
  · have d : (((namesOf (jn l)).length : Int) != (l.length : Int)) = true := by simp; omega
    rw [if_neg h]
    simp (maxSteps := 2000000) (disch := first | omega | (simp only [List.length_append, List.length_cons, List.length_nil, List.length_map] <;> omega)) only [d, q1, q5, t5, flg_str, swp_seq, swp_reg, swp_ret, swp_cond, seqK_n, seqK_r, condK_t, evK_some, appK_eq, appC_eq, srun_nil, srun_cons, fin_ret, sk_mv, sk_give, sk_bin, sk_lenL, get_mk, raw_slot, raw_lit, put_some, wb_nil, ev_mv, ev_give, bin_neq, ro_str, List.map_cons, List.map_nil, List.getD_cons_zero, List.getD_cons_succ, List.set_cons_zero, List.set_cons_succ, true_and, Bool.false_eq_true, ↓reduceIte]
    first | exact ⟨_, .same⟩ | exact ⟨_, .same, rfl⟩ | exact ⟨_, .same, rfl, rfl⟩
def KJoinP : List SV → SV → Prop := fun args r => ∃ v l, smL l ∧ rdS v l ∧ args = [v] ∧ r = .str (joinP l)
def O9 : Orc := O8.add 18 (FnC KJoinP)
theorem s9 : Sound Tryd.prog O9 := s8.addP c18 (by kernel_rfl) (by
  rintro args r ⟨v, l, hl, hv, rfl, rfl⟩
  exact ⟨by simp [sf18], fun st => f18 v l hl hv st⟩)
theorem names_smL {s : List UInt8} (hs : sm s) (n : Nat) : smL ((namesOf s).take n) := by
  have h4 : (namesOf s).length ≤ 4 := by
    unfold namesOf; split
    · rename_i h; exact h.1
    · simp
  have h12 : ∀ x ∈ namesOf s, x.length ≤ 12 := by
    intro x hx
    unfold namesOf at hx
    split at hx
    · rename_i h
      have := List.all_eq_true.1 h.2 x hx
      simp only [nameB, Bool.and_eq_true, decide_eq_true_eq] at this
      exact this.1.1.1.2
    · cases hx
  have key : ∀ l : List (List UInt8), (∀ x ∈ l, x.length ≤ 12) → l.flatten.length ≤ l.length * 12 := by
    intro l
    induction l with
    | nil => intro _; simp
    | cons a l ih =>
      intro h
      have h1 := h a List.mem_cons_self
      have h2 := ih fun x hx => h x (List.mem_cons_of_mem _ hx)
      simp only [List.flatten_cons, List.length_append, List.length_cons]; omega
  have := key ((namesOf s).take n) fun x hx => h12 x (List.mem_of_mem_take hx)
  have h5 : ((namesOf s).take n).length ≤ 4 := by rw [List.length_take]; omega
  unfold smL; omega
theorem names_le4 (s : List UInt8) : (namesOf s).length ≤ 4 := by
  unfold namesOf; split
  · rename_i h; exact h.1
  · simp
theorem f20 (s : List UInt8) (hs : sm s) (st : List Ob) : swpF O9 sf20 [.str s] st (fun r st' => r = .str (parentB s) ∧ st' = st) := by
  obtain ⟨t1, t2, t3, t4, t5⟩ := rdS_facts (namesV_rdS s)
  have h4 := names_le4 s
  simp (maxSteps := 2000000) (disch := first | omega | (simp only [List.length_append, List.length_cons, List.length_nil, List.length_map] <;> omega)) only [sf20, flg_str, exc_str, swp_seq, swp_reg, seqK_n, evK_some, appK_eq, srun_nil, srun_cons, stepK_call, swpF_eq, sk_mv, sk_give, get_mk, raw_slot, raw_lit, put_some, wb_nil, ev_mv, ev_give, ro_str, got_str, pubs, pubsFrom, List.map_cons, List.map_nil, List.getD_cons_zero, List.set_cons_zero, List.set_cons_succ, List.length_cons, List.length_nil, List.replicate_succ, List.replicate_zero, List.cons_append, List.nil_append, Nat.reduceSub, Bool.false_eq_true, ↓reduceIte, Nat.zero_add]
  refine callK_intro ((.inl (.inl (.inr ⟨rfl, rfl, s, hs, rfl, rfl⟩)))) ?_
  obtain ⟨m, hm, hm2⟩ : ∃ m : Nat, (if (0 : Int) < ((namesOf s).length : Int) - 1 then ((namesOf s).length : Int) - 1 else 0) = (m : Int) ∧ m = (namesOf s).length - 1 := by
    refine ⟨(namesOf s).length - 1, ?_, rfl⟩
    split <;> omega
  have hsl := ssv_len (namesOf s)
  have hls := names_smL hs m
  unfold parentB
  rw [← hm2]
  rcases namesV_rdS s with ⟨e, h0⟩ | e
  · have hm0 : m = 0 := by rw [hm2, h0]; rfl
    subst hm0
    have k18 : O9 18 [.nilS] st (.str (joinP ((namesOf s).take 0))) st := Orc.here ⟨.nilS, _, hls, .inl ⟨rfl, by simp⟩, rfl, rfl⟩
    rw [e] at t5 ⊢
    have z : ∀ st, ev st (.slcL 1 false true false) [.nilS, .int .i64 0] = some (.nilS, [], st) := fun st => slcL_nil_hi
    rw [h0] at hm
    simp only [List.length_nil, Int.natCast_zero] at hm
    simp (maxSteps := 2000000) (disch := first | omega | (simp only [List.length_append, List.length_cons, List.length_nil, List.length_map] <;> omega)) only [flg_nilS, exc_nilS, swp_seq, swp_reg, seqK_n, evK_some, appK_eq, appC_eq, srun_nil, srun_cons, stepK_call, sk_mv, sk_give, sk_bin, sk_lenL, sk_max, sk_slcL, get_mk, raw_slot, raw_lit, put_some, wb_nil, ev_mv, ev_give, ev_lenN, ev_max, bin_sub, slcL_nil_hi, ro_nilS, got_nilS, pubs, pubsFrom, List.map_cons, List.map_nil, List.getD_cons_zero, List.getD_cons_succ, List.set_cons_zero, List.set_cons_succ, Bool.false_eq_true, ↓reduceIte, gt_iff_lt, Int.reduceLT, Int.reduceSub, Int.reduceNeg, wrap_i64]
    refine callK_intro k18 ?_
    simp (maxSteps := 2000000) (disch := first | omega | (simp only [List.length_append, List.length_cons, List.length_nil, List.length_map] <;> omega)) only [flg_str, swp_ret, seqK_n, evK_some, appK_eq, appC_eq, srun_nil, srun_cons, fin_ret, sk_give, get_mk, raw_slot, put_some, wb_nil, ev_give, ro_str, List.map_cons, List.map_nil, List.getD_cons_zero, List.getD_cons_succ, List.set_cons_zero, List.set_cons_succ, true_and, Bool.false_eq_true, ↓reduceIte, Int.reduceNeg]
    first | exact ⟨_, .same⟩ | exact ⟨_, .same, rfl⟩ | exact ⟨_, .same, rfl, rfl⟩
  · have hml : m ≤ (namesOf s).length := by omega
    have k18 : O9 18 [.sl (ssv ((namesOf s).take m)) m .ro] st (.str (joinP ((namesOf s).take m))) st := Orc.here ⟨_, _, hls, .inr (by rw [List.length_take, Nat.min_eq_left hml]), rfl, rfl⟩
    have z : ∀ st, ev st (.slcL 1 false true false) [.sl (ssv (namesOf s)) (namesOf s).length .ro, .int .i64 (m : Int)] = some (.sl (ssv ((namesOf s).take m)) m .ro, [], st) := fun st => by
      rw [slcL_hi_ro (by omega) (by omega) (by omega)]
      simp [ssv_take]
    rw [e] at t5 ⊢
    simp (maxSteps := 2000000) (disch := first | omega | (simp only [List.length_append, List.length_cons, List.length_nil, List.length_map] <;> omega)) only [hm, z, flg_ro, exc_ro, swp_seq, swp_reg, seqK_n, evK_some, appK_eq, appC_eq, srun_nil, srun_cons, stepK_call, sk_mv, sk_give, sk_bin, sk_lenL, sk_max, sk_slcL, get_mk, raw_slot, raw_lit, put_some, wb_nil, ev_mv, ev_give, ev_lenL, ev_max, bin_sub, ro_ro, got_roo, pubs, pubsFrom, List.map_cons, List.map_nil, List.getD_cons_zero, List.getD_cons_succ, List.set_cons_zero, List.set_cons_succ, Bool.false_eq_true, ↓reduceIte, gt_iff_lt, wrap_i64]
    refine callK_intro k18 ?_
    simp (maxSteps := 2000000) (disch := first | omega | (simp only [List.length_append, List.length_cons, List.length_nil, List.length_map] <;> omega)) only [flg_str, swp_ret, seqK_n, evK_some, appK_eq, appC_eq, srun_nil, srun_cons, fin_ret, sk_give, get_mk, raw_slot, put_some, wb_nil, ev_give, ro_str, List.map_cons, List.map_nil, List.getD_cons_zero, List.getD_cons_succ, List.set_cons_zero, List.set_cons_succ, true_and, Bool.false_eq_true, ↓reduceIte]
    first | exact ⟨_, .same⟩ | exact ⟨_, .same, rfl⟩ | exact ⟨_, .same, rfl, rfl⟩
def KParent : List SV → SV → Prop := fun args r => ∃ s : List UInt8, sm s ∧ args = [.str s] ∧ r = .str (parentB s)
def O10 : Orc := O9.add 20 (FnC KParent)
theorem s10 : Sound Tryd.prog O10 := s9.addP c20 (by kernel_rfl) (by
  rintro args r ⟨s, hs, rfl, rfl⟩
  exact ⟨by simp [sf20], fun st => f20 s hs st⟩)
theorem o10_16 {s : List UInt8} (hs : sm s) (st : List Ob) : O10 16 [.str s] st (.bool (rightB s)) st := (.inl (.inl (.inr ⟨rfl, rfl, s, hs, rfl, rfl⟩)))
theorem f24 (s d : List UInt8) (hs : sm s) (hd : sm d) (st : List Ob) : swpF O10 sf24 [.str s, .str d] st (fun r st' => r = .bool (underB s d) ∧ st' = st) := by
  have k31 : O10 31 [.str s, .str (d ++ [47])] st (.bool ((d ++ [47]).isPrefixOf s)) st := (.inl (.inl (.inl (.inl (.inl (.inr ⟨rfl, rfl, s, d ++ [47], rfl, rfl⟩))))))
  unfold underB
  simp (maxSteps := 2000000) (disch := first | omega | (simp only [List.length_append, List.length_cons, List.length_nil, List.length_map] <;> omega)) only [sf24, flg_bool, exc_str, swp_seq, swp_reg, seqK_n, evK_some, appK_eq, srun_nil, srun_cons, stepK_call, swpF_eq, sk_mv, sk_give, get_mk, raw_slot, raw_lit, put_some, wb_nil, ev_mv, ev_give, ro_bool, ro_str, got_str, pubs, pubsFrom, List.map_cons, List.map_nil, List.getD_cons_zero, List.set_cons_zero, List.set_cons_succ, List.length_cons, List.length_nil, List.replicate_succ, List.replicate_zero, List.cons_append, List.nil_append, Nat.reduceAdd, Nat.reduceSub, Bool.false_eq_true, ↓reduceIte, Nat.zero_add]
  refine callK_intro (o10_16 hs st) ?_
  have hda : d.length + ([47] : List UInt8).length ≤ 1073741824 := by unfold sm at hd; simp; omega
  cases h1 : rightB s with
  | false =>
    simp (maxSteps := 2000000) (disch := first | omega | (simp only [List.length_append, List.length_cons, List.length_nil, List.length_map] <;> omega)) only [flg_bool, swp_ret, seqK_n, evK_some, appK_eq, appC_eq, grd_t, srun_nil, srun_cons, stepK_grd, fin_ret, sk_mv, sk_give, sk_pick, get_mk, raw_slot, raw_lit, put_some, wb_nil, ev_mv, ev_give, ev_pick, ro_bool, List.map_cons, List.map_nil, List.getD_cons_zero, List.getD_cons_succ, List.set_cons_zero, List.set_cons_succ, Bool.false_eq_true, ↓reduceIte]
    first | exact ⟨_, .same⟩ | exact ⟨_, .same, rfl⟩ | exact ⟨_, .same, rfl, rfl⟩
  | true =>
    simp (maxSteps := 2000000) (disch := first | omega | (simp only [List.length_append, List.length_cons, List.length_nil, List.length_map] <;> omega)) only [exc_str, evK_some, appK_eq, appC_eq, grd_t, srun_cons, stepK_call, stepK_grd, sk_mv, sk_take, get_mk, raw_slot, put_some, wb_nil, ev_mv, ev_take, ro_bool, got_str, pubs, pubsFrom, List.map_cons, List.map_nil, List.getD_cons_zero, List.getD_cons_succ, List.set_cons_zero, List.set_cons_succ, Bool.false_eq_true, ↓reduceIte]
    refine callK_intro (o10_16 hd st) ?_
    cases h2 : rightB d with
    | false =>
      simp (maxSteps := 2000000) (disch := first | omega | (simp only [List.length_append, List.length_cons, List.length_nil, List.length_map] <;> omega)) only [flg_bool, swp_ret, seqK_n, evK_some, appK_eq, appC_eq, grd_t, srun_nil, srun_cons, stepK_grd, fin_ret, sk_mv, sk_give, sk_pick, get_mk, raw_slot, raw_lit, put_some, wb_nil, ev_mv, ev_give, ev_pick, ro_bool, List.map_cons, List.map_nil, List.getD_cons_zero, List.getD_cons_succ, List.set_cons_zero, List.set_cons_succ, Bool.false_eq_true, ↓reduceIte]
      first | exact ⟨_, .same⟩ | exact ⟨_, .same, rfl⟩ | exact ⟨_, .same, rfl, rfl⟩
    | true =>
      simp (maxSteps := 2000000) (disch := first | omega | (simp only [List.length_append, List.length_cons, List.length_nil, List.length_map] <;> omega)) only [bin_addS hda, exc_str, evK_some, appK_eq, appC_eq, grd_t, srun_cons, stepK_call, stepK_grd, sk_mv, sk_take, sk_pick, sk_bin, get_mk, raw_slot, raw_lit, put_some, wb_nil, ev_mv, ev_take, ev_pick, ro_bool, got_str, pubs, pubsFrom, List.map_cons, List.map_nil, List.getD_cons_zero, List.getD_cons_succ, List.set_cons_zero, List.set_cons_succ, Bool.false_eq_true, ↓reduceIte, Bool.and_self]
      refine callK_intro k31 ?_
      simp (maxSteps := 2000000) (disch := first | omega | (simp only [List.length_append, List.length_cons, List.length_nil, List.length_map] <;> omega)) only [flg_bool, swp_ret, seqK_n, evK_some, appK_eq, appC_eq, srun_nil, srun_cons, fin_ret, sk_give, sk_pick, get_mk, raw_slot, raw_lit, put_some, wb_nil, ev_give, ev_pick, ro_bool, List.map_cons, List.map_nil, List.getD_cons_zero, List.getD_cons_succ, List.set_cons_zero, List.set_cons_succ, Bool.false_eq_true, ↓reduceIte]
      first | exact ⟨_, .same⟩ | exact ⟨_, .same, rfl⟩ | exact ⟨_, .same, rfl, rfl⟩
def KUnder : List SV → SV → Prop := fun args r => ∃ s d : List UInt8, sm s ∧ sm d ∧ args = [.str s, .str d] ∧ r = .bool (underB s d)
def O11 : Orc := O10.add 24 (FnC KUnder)
theorem s11 : Sound Tryd.prog O11 := s10.addP c24 (by kernel_rfl) (by
  rintro args r ⟨s, d, hs, hd, rfl, rfl⟩
  exact ⟨by simp [sf24], fun st => f24 s d hs hd st⟩)
theorem f26 (s d : List UInt8) (hs : sm s) (hd : sm d) (st : List Ob) : swpF O11 sf26 [.str s, .str d] st (fun r st' => r = .bool (clashB s d) ∧ st' = st) := by
  unfold clashB
  simp (maxSteps := 2000000) (disch := first | omega | (simp only [List.length_append, List.length_cons, List.length_nil, List.length_map] <;> omega)) only [sf26, flg_bool, exc_str, swp_seq, swp_reg, seqK_n, evK_some, appK_eq, srun_nil, srun_cons, stepK_call, swpF_eq, sk_mv, sk_give, get_mk, raw_slot, raw_lit, put_some, wb_nil, ev_mv, ev_give, ro_bool, ro_str, got_str, pubs, pubsFrom, List.map_cons, List.map_nil, List.getD_cons_zero, List.getD_cons_succ, List.set_cons_zero, List.set_cons_succ, List.length_cons, List.length_nil, List.replicate_succ, List.replicate_zero, List.cons_append, List.nil_append, Nat.reduceAdd, Nat.reduceSub, Bool.false_eq_true, ↓reduceIte, Nat.zero_add]
  refine callK_intro (Orc.here ⟨s, d, hs, hd, rfl, rfl⟩) ?_
  cases h1 : underB s d with
  | true =>
    simp (maxSteps := 2000000) (disch := first | omega | (simp only [List.length_append, List.length_cons, List.length_nil, List.length_map] <;> omega)) only [flg_bool, swp_ret, seqK_n, evK_some, appK_eq, appC_eq, grd_t, srun_nil, srun_cons, stepK_grd, fin_ret, sk_mv, sk_give, sk_pick, get_mk, raw_slot, raw_lit, put_some, wb_nil, ev_mv, ev_give, ev_pick, ro_bool, List.map_cons, List.map_nil, List.getD_cons_zero, List.getD_cons_succ, List.set_cons_zero, List.set_cons_succ, Bool.false_eq_true, ↓reduceIte, reduceCtorEq]
    first | exact ⟨_, .same⟩ | exact ⟨_, .same, rfl⟩ | exact ⟨_, .same, rfl, rfl⟩
  | false =>
    simp (maxSteps := 2000000) (disch := first | omega | (simp only [List.length_append, List.length_cons, List.length_nil, List.length_map] <;> omega)) only [exc_str, evK_some, appK_eq, appC_eq, grd_t, srun_cons, stepK_call, stepK_grd, sk_mv, sk_take, get_mk, raw_slot, put_some, wb_nil, ev_mv, ev_take, ro_bool, got_str, pubs, pubsFrom, List.map_cons, List.map_nil, List.getD_cons_zero, List.getD_cons_succ, List.set_cons_zero, List.set_cons_succ, Bool.false_eq_true, ↓reduceIte]
    refine callK_intro (Orc.here ⟨d, s, hd, hs, rfl, rfl⟩) ?_
    simp (maxSteps := 2000000) (disch := first | omega | (simp only [List.length_append, List.length_cons, List.length_nil, List.length_map] <;> omega)) only [flg_bool, swp_ret, seqK_n, evK_some, appK_eq, appC_eq, srun_nil, srun_cons, fin_ret, sk_give, sk_pick, get_mk, raw_slot, raw_lit, put_some, wb_nil, ev_give, ev_pick, ro_bool, List.map_cons, List.map_nil, List.getD_cons_zero, List.getD_cons_succ, List.set_cons_zero, List.set_cons_succ, Bool.false_eq_true, ↓reduceIte]
    first | exact ⟨_, .same⟩ | exact ⟨_, .same, rfl⟩ | exact ⟨_, .same, rfl, rfl⟩
def KClash : List SV → SV → Prop := fun args r => ∃ s d : List UInt8, sm s ∧ sm d ∧ args = [.str s, .str d] ∧ r = .bool (clashB s d)
def O12 : Orc := O11.add 26 (FnC KClash)
theorem s12 : Sound Tryd.prog O12 := s11.addP c26 (by kernel_rfl) (by
  rintro args r ⟨s, d, hs, hd, rfl, rfl⟩
  exact ⟨by simp [sf26], fun st => f26 s d hs hd st⟩)
end Go.Sh.F
