/-
  Records: numbers as bytes, in the shadow machine.
  Records: Same, in the shadow machine.
  Records: the bytes of manifests, in the shadow machine.
  Records: the document's bytes of manifests, in the shadow machine.
  Records: the names of all chunks, in the shadow machine.
  Records: numbers read into places, in the shadow machine.
  Records: a piece read, in the shadow machine.
-/
import Derived.Test.YtlknoahpliaigaaDoorGrM
import Derived.Test.YtlknoahpliaigaaDoorWrM
import Derived.Test.YtlknoahpliaigaaDoorShPl
set_option linter.unusedSimpArgs false
set_option linter.unusedVariables false
namespace Go.Sh.F
open Go.PathLaw Go.Proofs
def O200 : Orc := fun f a s r s2 => O105 f a s r s2 ∨ W.O25 f a s r s2
theorem s200 : Sound Tryd.prog O200 := fun f a s r s2 h => h.elim (s105 f a s r s2) (W.s25 f a s r s2)
def nB (n : Int) : List UInt8 := W.be4 (W.clampN n)
theorem nB_len (n : Int) : (nB n).length = 4 := rfl
def nsB (l : List Int) : List UInt8 := l.flatMap nB
theorem nsB_len (l : List Int) : (nsB l).length = 4 * l.length := by
  induction l with
  | nil => rfl
  | cons x l ih => rw [nsB, List.flatMap_cons, List.length_append, nB_len, List.length_cons]; unfold nsB at ih; rw [ih]; omega
theorem nsB_snoc {l : List Int} {i : Nat} (hi : i < l.length) : nsB (l.take (i + 1)) = nsB (l.take i) ++ nB l[i] := by
  unfold nsB
  rw [← List.take_append_getElem hi, List.flatMap_append, List.flatMap_cons, List.flatMap_nil, List.append_nil]
theorem w59 {v : SV} {l : List UInt8} {n : Int} {st : List Ob} (hv : W.rdv v l) (hl : l.length ≤ 1099511627776) : O200 59 [v, .int .i64 n] st (.sl (W.bsv (l ++ nB n)) (l.length + 4) (.excl 1)) st :=
  .inr (by repeat first | exact Or.inr ⟨rfl, rfl, v, l, n, W.rdv_isBs hv, hl, rfl, rfl⟩ | refine Or.inl ?_)
theorem w37 {v : SV} {l : List UInt8} {s : List UInt8} {st : List Ob} (hv : W.rdv v l) (hl : l.length ≤ 549755813888) : O200 37 [v, .str s] st (.sl (W.bsv (l ++ W.strB s)) (l.length + (W.strB s).length) (.excl 1)) st :=
  .inr (by repeat first | exact Or.inr ⟨rfl, rfl, v, l, s, W.rdv_isBs hv, hl, rfl, rfl⟩ | refine Or.inl ?_)
def numsV (v : SV) (l : List UInt8) (ns : List Int) : SV := match ns with | [] => v | _ => .sl (W.bsv (l ++ nsB ns)) (l.length + (nsB ns).length) (.excl 1)
theorem numsV_cons (v : SV) (l : List UInt8) {ns : List Int} (h : ns ≠ []) : numsV v l ns = .sl (W.bsv (l ++ nsB ns)) (l.length + (nsB ns).length) (.excl 1) := by
  cases ns with
  | nil => exact absurd rfl h
  | cons => rfl
theorem rdv_ro {l : List UInt8} {k : Nat} (h : k = l.length) : W.rdv (.sl (W.bsv l) k .ro) l := by subst h; exact .inr rfl
set_option maxHeartbeats 4000000 in
theorem g36n (v : SV) (l : List UInt8) (w : SV) (ns : List Int) (st : List Ob) (hv : W.rdv v l) (hw : RowI st w ns) (hl : l.length ≤ 1073741824) (hn : ns.length ≤ 16777216) : swpF O200 sf36 [v, w] st (fun r st' => r = numsV v l ns ∧ st' = st) := by
  obtain ⟨q1, q2, q3, q4, q6, q7⟩ := hw.facts
  have q5 := hw.lenL
  obtain ⟨u1, u2, u3, u4⟩ := W.rdv_facts hv
  simp (maxSteps := 2000000) (disch := first | omega | simp only [List.length_append, List.length_cons, List.length_nil, List.length_map] <;> omega) only [sf36, q1, q5, List.set_cons_zero, List.set_cons_succ, flg_nilS, swp_seq, swp_reg, swp_block, seqK_n, evK_some, appK_eq, srun_nil, srun_cons, swpF_eq, sk_mv, sk_give, sk_lenL, get_mk, raw_slot, raw_lit, put_some, wb_nil, ev_mv, ev_give, ro_int, ro_nilS, List.map_cons, List.map_nil, List.getD_cons_zero, List.getD_cons_succ, List.length_cons, List.length_nil, List.replicate_succ, List.replicate_zero, List.cons_append, List.nil_append, Nat.reduceAdd, Nat.reduceSub, Bool.false_eq_true, ↓reduceIte, Nat.zero_add]
  refine swp_lp (fun S => ∃ (i : Nat) (b : SV), i ≤ ns.length ∧ b = numsV v l (ns.take i) ∧
      S = ⟨[b, .undef, .undef, .undef, .undef, .undef, .undef, w, .int .i64 ns.length, .int .i64 i] ++ List.replicate 8 .undef, st⟩)
      (fun S => match S.get 9 with | .int _ k => ((ns.length : Int) - k).toNat | _ => 0)
      ⟨[v, .undef, .undef, .undef, .undef, .undef, .undef, w, .int .i64 ns.length, .int .i64 0] ++ List.replicate 8 .undef, st⟩ ?_ ⟨0, v, Nat.zero_le _, rfl, rfl⟩ ?_
  · refine Forget.of ?_
    repeat first | exact fg_e | refine fg_d ?_ | refine fg_k rfl ?_
  rintro S ⟨i, b, hi, hb, rfl⟩
  by_cases him : i = ns.length
  · have hd : decide ((i : Int) < (ns.length : Int)) = false := by rw [decide_eq_false_iff_not]; omega
    rw [him, List.take_length] at hb
    subst hb
    simp (maxSteps := 2000000) (disch := first | omega | simp only [List.length_append, List.length_cons, List.length_nil, List.length_map] <;> omega) only [hd, List.set_cons_zero, List.set_cons_succ, lpK_e, swp_seq, swp_reg, swp_exit, swp_cond, seqK_n, seqK_e, blkK_e, condK_f, evK_some, appK_eq, srun_nil, srun_cons, sk_mv, sk_give, sk_bin, get_mk, raw_slot, put_some, wb_nil, ev_mv, ev_give, bin_lss, List.map_cons, List.map_nil, List.getD_cons_zero, List.getD_cons_succ, List.replicate_succ, List.replicate_zero, List.cons_append, List.nil_append, ↓reduceIte]
    cases ns with
    | nil => simp (maxSteps := 2000000) (disch := first | omega | simp only [List.length_append, List.length_cons, List.length_nil, List.length_map] <;> omega) only [numsV, u1, u4, List.set_cons_zero, List.set_cons_succ, swp_ret, seqK_n, evK_some, appK_eq, srun_nil, fin_ret, get_mk, put_some, wb_nil, List.getD_cons_zero, List.getD_cons_succ, List.length_nil, true_and, Bool.false_eq_true, ↓reduceIte, Int.cast_ofNat_Int]; first | exact ⟨_, .same⟩ | exact ⟨_, .same, rfl⟩ | exact ⟨_, .same, rfl, rfl⟩
    | cons x r => simp (maxSteps := 2000000) (disch := first | omega | simp only [List.length_append, List.length_cons, List.length_nil, List.length_map] <;> omega) only [numsV, List.set_cons_zero, List.set_cons_succ, flg_excl, swp_ret, seqK_n, evK_some, appK_eq, srun_nil, fin_ret, get_mk, put_some, wb_nil, wb_cons, ro_excl, List.getD_cons_zero, List.getD_cons_succ, List.getElem?_cons_zero, List.length_cons, true_and, ↓reduceIte]; first | exact ⟨_, .same⟩ | exact ⟨_, .same, rfl⟩ | exact ⟨_, .same, rfl, rfl⟩
  have hd : decide ((i : Int) < (ns.length : Int)) = true := by rw [decide_eq_true_eq]; omega
  have hil : i < ns.length := by omega
  have fin : ((ns.length : Int) - ((i + 1 : Nat) : Int)).toNat < ((ns.length : Int) - (i : Int)).toNat := by omega
  have z1 := hw.idxB hil .i64
  rw [Nat.mul_one] at z1
  have z2 := hw.ld1' (isv_at (List.getElem?_eq_getElem hil))
  have enext : numsV v l (ns.take (i + 1)) = .sl (W.bsv (l ++ (nsB (ns.take i) ++ nB ns[i]))) (l.length + (nsB (ns.take i)).length + 4) (.excl 1) := by
    have hne : ns.take (i + 1) ≠ [] := by intro h; have := congrArg List.length h; rw [List.length_take, List.length_nil] at this; omega
    rw [numsV_cons _ _ hne, nsB_snoc hil, List.length_append, nB_len, ← Nat.add_assoc]
  have hll : (l ++ nsB (ns.take i)).length ≤ 1099511627776 := by
    rw [List.length_append, nsB_len, List.length_take]; omega
  subst hb
  by_cases h0 : i = 0
  · subst h0
    have k59 := w59 (n := ns[0]) (st := st) hv (by omega)
    have hd0 : decide ((0 : Int) < (ns.length : Int)) = true := hd
    rw [show ns.take 0 = [] from rfl] at enext ⊢
    rw [show nsB [] = [] from rfl, List.nil_append, List.length_nil, Nat.add_zero] at enext
    have z10 : ev st (.idxB 1) [w, .int .i64 0] = some (adr w 0, [], st) := z1 st
    simp (maxSteps := 2000000) (disch := first | omega | simp only [List.length_append, List.length_cons, List.length_nil, List.length_map] <;> omega) only [hd0, z10, z2, numsV, u1, u2, u3, List.set_cons_zero, List.set_cons_succ, flg_int, exc_int, sk_idxB, swp_seq, swp_reg, swp_skip, swp_block, swp_cond, seqK_n, condK_t, evK_some, appK_eq, srun_nil, srun_cons, stepK_call, sk_mv, sk_give, sk_bin, sk_load, get_mk, raw_slot, put_some, wb_nil, ev_mv, ev_give, bin_lss, ro_int, got_int, pubs, pubsFrom, List.map_cons, List.map_nil, List.getD_cons_zero, List.getD_cons_succ, List.replicate_succ, List.replicate_zero, List.cons_append, List.nil_append, Bool.false_eq_true, ↓reduceIte, Int.cast_ofNat_Int]
    refine callK_intro k59 ?_
    simp (maxSteps := 2000000) (disch := first | omega | simp only [List.length_append, List.length_cons, List.length_nil, List.length_map] <;> omega) only [List.set_cons_zero, List.set_cons_succ, lpK_n, flg_excl, swp_reg, seqK_n, blkK_n, evK_some, appK_eq, appC_eq, srun_nil, srun_cons, sk_mv, sk_give, sk_bin, get_mk, raw_slot, raw_lit, put_some, wb_nil, wb_cons, ev_mv, ev_give, bin_add, ro_int, ro_excl, List.map_cons, List.map_nil, List.getD_cons_zero, List.getD_cons_succ, List.getElem?_cons_zero, ↓reduceIte, Int.reduceAdd, wrap_i64]
    refine ⟨_, ?_, ⟨1, _, by omega, enext.symm, rfl⟩, by exact fin⟩
    refine Forget.of ?_
    repeat first | exact fg_e | refine fg_d ?_ | refine fg_k rfl ?_
  · have hne : ns.take i ≠ [] := by intro h; have := congrArg List.length h; rw [List.length_take, List.length_nil] at this; omega
    have k59 := w59 (n := ns[i]) (st := st) (rdv_ro (l := l ++ nsB (ns.take i)) (k := l.length + (nsB (ns.take i)).length) (by rw [List.length_append])) hll
    rw [List.length_append] at k59
    rw [numsV_cons _ _ hne]
    simp (maxSteps := 2000000) (disch := first | omega | simp only [List.length_append, List.length_cons, List.length_nil, List.length_map] <;> omega) only [hd, z1, z2, List.set_cons_zero, List.set_cons_succ, pub_excl2, flg_int, exc_int, exc_excl, sk_idxB, swp_seq, swp_reg, swp_skip, swp_block, swp_cond, seqK_n, condK_t, evK_some, appK_eq, srun_nil, srun_cons, stepK_call, sk_mv, sk_give, sk_bin, sk_load, get_mk, raw_slot, put_some, wb_nil, ev_mv, ev_give, bin_lss, ro_int, ro_excl, got_excl, got_int, pubs, pubsFrom, List.map_cons, List.map_nil, List.getD_cons_zero, List.getD_cons_succ, List.replicate_succ, List.replicate_zero, List.cons_append, List.nil_append, Bool.false_eq_true, ↓reduceIte]
    refine callK_intro k59 ?_
    simp (maxSteps := 2000000) (disch := first | omega | simp only [List.length_append, List.length_cons, List.length_nil, List.length_map] <;> omega) only [List.append_assoc, List.set_cons_zero, List.set_cons_succ, lpK_n, flg_excl, swp_reg, seqK_n, blkK_n, evK_some, appK_eq, appC_eq, srun_nil, srun_cons, sk_mv, sk_give, sk_bin, get_mk, raw_slot, raw_lit, put_some, wb_nil, wb_cons, ev_mv, ev_give, bin_add, ro_int, ro_excl, List.map_cons, List.map_nil, List.getD_cons_zero, List.getD_cons_succ, List.getElem?_cons_zero, ↓reduceIte, wrap_i64]
    refine ⟨_, ?_, ⟨i + 1, _, by omega, enext.symm, rfl⟩, by exact fin⟩
    refine Forget.of ?_
    repeat first | exact fg_e | refine fg_d ?_ | refine fg_k rfl ?_
def O201 : Orc := O200.add 36 (StC fun st args r => ∃ (v : SV) (l : List UInt8) (w : SV) (ns : List Int), W.rdv v l ∧ RowI st w ns ∧ l.length ≤ 1073741824 ∧ ns.length ≤ 16777216 ∧ args = [v, w] ∧ r = numsV v l ns)
theorem s201 : Sound Tryd.prog O201 := s200.addS c36 (by kernel_rfl) (by
  rintro args r st ⟨v, l, w, ns, hv, hw, hl, hn, rfl, rfl⟩
  exact ⟨by simp [sf36], g36n v l w ns st hv hw hl hn⟩)
def O202 : Orc := O201.add 0 (fun _ _ _ _ => False)
theorem s202 : Sound Tryd.prog O202 := fun f a s r s2 h => h.elim (s201 f a s r s2) (fun k => k.2.elim)
end Go.Sh.F
namespace Go.Sh.F
open Go.PathLaw Go.Proofs
set_option maxHeartbeats 4000000 in
theorem g30e (O : Orc) (v : SV) (l : List Int) (w : SV) (k : List Int) (st : List Ob) (hv : RowI st v l) (hw : RowI st w k) (hl : l.length ≤ 1099511627776) : swpF O sf30 [v, w] st (fun r st' => r = .bool (decide (l = k)) ∧ st' = st) := by
  obtain ⟨q1, q2, q3, q4, q6, q7⟩ := hv.facts
  obtain ⟨u1, u2, u3, u4, u6, u7⟩ := hw.facts
  have q5 := hv.lenL
  have u5 := hw.lenL
  rcases bf ((l.length : Int) == (k.length : Int)) with h1 | h1
  · have e : decide (l = k) = false := by rw [decide_eq_false_iff_not]; rintro rfl; simp at h1
    rw [e]
    simp (maxSteps := 2000000) (disch := first | omega | simp only [List.length_append, List.length_cons, List.length_nil, List.length_map] <;> omega) only [sf30, h1, q1, q5, u1, u5, nbI, List.set_cons_zero, List.set_cons_succ, flg_bool, swp_seq, swp_reg, swp_ret, swp_cond, seqK_n, seqK_r, condK_t, evK_some, appK_eq, srun_nil, srun_cons, fin_ret, swpF_eq, sk_mv, sk_give, sk_bin, sk_lenL, get_mk, raw_slot, raw_lit, put_some, wb_nil, ev_mv, ev_give, bin_neq, ro_bool, List.map_cons, List.map_nil, List.getD_cons_zero, List.getD_cons_succ, List.length_cons, List.length_nil, List.replicate_succ, List.replicate_zero, List.cons_append, List.nil_append, Nat.reduceAdd, Nat.reduceSub, true_and, Bool.false_eq_true, ↓reduceIte, Nat.zero_add, Bool.not_false]
    first | exact ⟨_, .same⟩ | exact ⟨_, .same, rfl⟩ | exact ⟨_, .same, rfl, rfl⟩
  have hlk : l.length = k.length := by rw [beq_iff_eq] at h1; omega
  simp (maxSteps := 2000000) (disch := first | omega | simp only [List.length_append, List.length_cons, List.length_nil, List.length_map] <;> omega) only [sf30, h1, q1, q5, u1, u5, nbI, List.set_cons_zero, List.set_cons_succ, flg_bool, swp_seq, swp_reg, swp_skip, swp_block, swp_cond, seqK_n, condK_f, evK_some, appK_eq, srun_nil, srun_cons, swpF_eq, sk_mv, sk_give, sk_bin, sk_lenL, get_mk, raw_slot, raw_lit, put_some, wb_nil, ev_mv, ev_give, bin_neq, ro_int, ro_bool, List.map_cons, List.map_nil, List.getD_cons_zero, List.getD_cons_succ, List.length_cons, List.length_nil, List.replicate_succ, List.replicate_zero, List.cons_append, List.nil_append, Nat.reduceAdd, Nat.reduceSub, Bool.false_eq_true, ↓reduceIte, Nat.zero_add, Bool.not_true]
  refine swp_lp (fun S => ∃ (i : Nat), i ≤ l.length ∧ l.take i = k.take i ∧ S = ⟨[v, w] ++ List.replicate 10 .undef ++ [.int .i64 l.length, .int .i64 i] ++ List.replicate 12 .undef, st⟩)
      (fun S => match S.get 13 with | .int _ k => ((l.length : Int) - k).toNat | _ => 0)
      ⟨[v, w] ++ List.replicate 10 .undef ++ [.int .i64 l.length, .int .i64 0] ++ List.replicate 12 .undef, st⟩ ?_ ⟨0, Nat.zero_le _, rfl, rfl⟩ ?_
  · refine Forget.of ?_
    repeat first | exact fg_e | refine fg_d ?_ | refine fg_k rfl ?_
  rintro S ⟨i, hi, hall, rfl⟩
  by_cases him : i = l.length
  · have hd : decide ((i : Int) < (l.length : Int)) = false := by rw [decide_eq_false_iff_not]; omega
    have e : decide (l = k) = true := by
      rw [decide_eq_true_eq]
      rw [him, List.take_length, hlk, List.take_length] at hall; exact hall
    rw [e]
    simp (maxSteps := 2000000) (disch := first | omega | simp only [List.length_append, List.length_cons, List.length_nil, List.length_map] <;> omega) only [hd, List.set_cons_zero, List.set_cons_succ, lpK_e, flg_bool, swp_seq, swp_reg, swp_ret, swp_exit, swp_cond, seqK_n, seqK_e, blkK_e, condK_f, evK_some, appK_eq, srun_nil, srun_cons, fin_ret, sk_give, sk_bin, get_mk, raw_slot, raw_lit, put_some, wb_nil, ev_give, bin_lss, ro_bool, List.map_cons, List.map_nil, List.getD_cons_zero, List.getD_cons_succ, List.replicate_succ, List.replicate_zero, List.cons_append, List.nil_append, true_and, Bool.false_eq_true, ↓reduceIte]
    first | exact ⟨_, .same⟩ | exact ⟨_, .same, rfl⟩ | exact ⟨_, .same, rfl, rfl⟩
  have hd : decide ((i : Int) < (l.length : Int)) = true := by rw [decide_eq_true_eq]; omega
  have hil : i < l.length := by omega
  have hik : i < k.length := by omega
  have fin : ((l.length : Int) - ((i + 1 : Nat) : Int)).toNat < ((l.length : Int) - (i : Int)).toNat := by omega
  have z1 := hv.idxA hil .i64
  rw [Nat.mul_one] at z1
  have z2 := hv.ld1' (isv_at (List.getElem?_eq_getElem hil))
  have y1 := hw.idxA hik .i64
  rw [Nat.mul_one] at y1
  have y2 := hw.ld1' (isv_at (List.getElem?_eq_getElem hik))
  rcases bf (l[i] == k[i]) with e1 | e1
  · have e : decide (l = k) = false := by rw [decide_eq_false_iff_not]; rintro rfl; simp at e1
    rw [e]
    simp (maxSteps := 2000000) (disch := first | omega | simp only [List.length_append, List.length_cons, List.length_nil, List.length_map] <;> omega) only [hd, z1, z2, y1, y2, e1, q1, u1, nbI, List.set_cons_zero, List.set_cons_succ, lpK_r, flg_bool, exc_int, swp_seq, swp_reg, swp_skip, swp_ret, swp_block, swp_cond, seqK_n, seqK_r, blkK_r, condK_t, evK_some, appK_eq, srun_nil, srun_cons, fin_ret, sk_mv, sk_take, sk_give, sk_bin, sk_idxA, sk_load, get_mk, raw_slot, raw_lit, put_some, wb_nil, ev_mv, ev_take, ev_give, bin_neq, bin_lss, ro_int, ro_bool, got_int, List.map_cons, List.map_nil, List.getD_cons_zero, List.getD_cons_succ, List.replicate_succ, List.replicate_zero, List.cons_append, List.nil_append, true_and, Bool.false_eq_true, ↓reduceIte, Bool.not_false]
    first | exact ⟨_, .same⟩ | exact ⟨_, .same, rfl⟩ | exact ⟨_, .same, rfl, rfl⟩
  · simp (maxSteps := 2000000) (disch := first | omega | simp only [List.length_append, List.length_cons, List.length_nil, List.length_map] <;> omega) only [hd, z1, z2, y1, y2, e1, q1, u1, nbI, List.set_cons_zero, List.set_cons_succ, lpK_n, exc_int, swp_seq, swp_reg, swp_skip, swp_block, swp_cond, seqK_n, blkK_n, condK_t, condK_f, evK_some, appK_eq, srun_nil, srun_cons, sk_mv, sk_take, sk_bin, sk_idxA, sk_load, get_mk, raw_slot, raw_lit, put_some, wb_nil, ev_mv, ev_take, bin_add, bin_neq, bin_lss, ro_int, got_int, List.map_cons, List.map_nil, List.getD_cons_zero, List.getD_cons_succ, List.replicate_succ, List.replicate_zero, List.cons_append, List.nil_append, Bool.false_eq_true, ↓reduceIte, Bool.not_true, wrap_i64]
    refine ⟨_, ?_, ⟨i + 1, by omega, beq_take hall hil hik (by simpa using e1), rfl⟩, by exact fin⟩
    refine Forget.of ?_
    repeat first | exact fg_e | refine fg_d ?_ | refine fg_k rfl ?_
def O203 : Orc := O202.add 30 (StC KInts)
theorem s203 : Sound Tryd.prog O203 := s202.addS c30 (by kernel_rfl) (by
  rintro args r st ⟨v, l, w, k, hv, hw, hl, rfl, rfl⟩
  exact ⟨by simp [sf30], g30e _ v l w k st hv hw hl⟩)
theorem x30 {v : SV} {l : List Int} {w : SV} {k : List Int} {st : List Ob} (hv : RowI st v l) (hw : RowI st w k) (hl : l.length ≤ 1099511627776) : O203 30 [v, w] st (.bool (decide (l = k))) st := (by repeat first | exact Or.inr ⟨rfl, rfl, v, l, w, k, hv, hw, hl, rfl, rfl⟩ | refine Or.inl ?_)
def KPcs : List Ob → List SV → SV → Prop := fun st args r => ∃ p q : Pc, p.ok st ∧ q.ok st ∧ okSt st ∧ args = [.agg p.cells, .agg q.cells] ∧ r = .bool (samePc p q)
set_option maxHeartbeats 8000000 in
set_option maxRecDepth 20000 in
theorem g29s (p q : Pc) (st : List Ob) (hp : p.ok st) (hq : q.ok st) (ho : okSt st) : swpF O203 sf29 [.agg p.cells, .agg q.cells] st (fun r st' => r = .bool (samePc p q) ∧ st' = st) := by
  obtain ⟨q1, q2, q3, q4, q6, q7⟩ := hp.1.facts
  obtain ⟨u1, u2, u3, u4, u6, u7⟩ := hq.1.facts
  have q5 := hp.1.lenL
  have u5 := hq.1.lenL
  have cv := hp.1.cv
  have cw := hq.1.cv
  have hpl := hp.2.1
  have nbS : ∀ {st : List Ob} {x y : List UInt8}, ev st (.bin .eql) [.str x, .str y] = some (.bool (x == y), [], st) := fun {_ _ _} => bin_eqlS
  simp only [Pc.cells]
  rcases bf (p.path == q.path) with k0 | k0
  · simp (maxSteps := 2000000) (disch := first | omega | simp only [List.length_append, List.length_cons, List.length_nil, List.length_map] <;> omega) only [sf29, k0, cv_agg, cell_str, cell_int, cell_bool, getA0, getA, List.append_assoc, Nat.add_zero, List.set_cons_zero, List.set_cons_succ, flg_bool, exc_agg, swp_seq, swp_reg, swp_ret, seqK_n, evK_some, appK_eq, grd_t, srun_nil, srun_cons, stepK_grd, fin_ret, swpF_eq, sk_mv, sk_give, sk_pick, sk_bin, sk_fld, sk_load, sk_box, get_mk, raw_slot, raw_lit, put_some, wb_nil, ev_mv, ev_give, ev_pick, ev_fld, bin_eqlS, ev_box, ev_ldP, ldP_some, ro_bool, ro_str, ro1_int, ro1_str, ro1_bool, got_agg, List.map_cons, List.map_nil, List.getD_cons_zero, List.getD_cons_succ, List.getElem?_cons_zero, List.getElem?_cons_succ, List.length_cons, List.length_nil, List.replicate_succ, List.replicate_zero, List.cons_append, List.nil_append, Nat.reduceAdd, Nat.reduceSub, Bool.false_eq_true, Option.map_some, ↓reduceIte, List.all_cons, List.all_nil, Bool.and_self, Nat.zero_add, List.length_append, q6, q7, u6, u7]
    exact ⟨_, trim1 ho rfl, by unfold samePc; simp only [k0, Bool.false_and], rfl⟩
  rcases bf (p.has == q.has) with k1 | k1
  · simp (maxSteps := 2000000) (disch := first | omega | simp only [List.length_append, List.length_cons, List.length_nil, List.length_map] <;> omega) only [sf29, k0, k1, cv_agg, cell_str, cell_int, cell_bool, getA0, getA, List.append_assoc, Nat.add_zero, List.set_cons_zero, List.set_cons_succ, flg_bool, exc_agg, swp_seq, swp_reg, swp_ret, seqK_n, evK_some, appK_eq, grd_t, srun_nil, srun_cons, stepK_grd, fin_ret, swpF_eq, sk_mv, sk_give, sk_pick, sk_bin, sk_eqB, sk_fld, sk_load, sk_box, get_mk, raw_slot, raw_lit, put_some, wb_nil, ev_mv, ev_give, ev_pick, ev_eqB, ev_fld, bin_eqlS, ev_box, ev_ldP, ldP_some, ro_bool, ro_str, ro1_int, ro1_str, ro1_bool, got_agg, List.map_cons, List.map_nil, List.getD_cons_zero, List.getD_cons_succ, List.getElem?_cons_zero, List.getElem?_cons_succ, List.length_cons, List.length_nil, List.replicate_succ, List.replicate_zero, List.cons_append, List.nil_append, Nat.reduceAdd, Nat.reduceSub, Bool.false_eq_true, Option.map_some, ↓reduceIte, List.all_cons, List.all_nil, Bool.and_self, Nat.zero_add, List.length_append, q6, q7, u6, u7]
    exact ⟨_, trim1 ho rfl, by unfold samePc; simp only [k0, k1, Bool.false_and, Bool.and_false], rfl⟩
  rcases bf (p.size == q.size) with k2 | k2
  · simp (maxSteps := 2000000) (disch := first | omega | simp only [List.length_append, List.length_cons, List.length_nil, List.length_map] <;> omega) only [sf29, k0, k1, k2, cv_agg, cell_str, cell_int, cell_bool, getA0, getA, List.append_assoc, Nat.add_zero, List.set_cons_zero, List.set_cons_succ, flg_bool, exc_agg, swp_seq, swp_reg, swp_ret, seqK_n, evK_some, appK_eq, grd_t, srun_nil, srun_cons, stepK_grd, fin_ret, swpF_eq, sk_mv, sk_give, sk_pick, sk_bin, sk_eqB, sk_fld, sk_load, sk_box, get_mk, raw_slot, raw_lit, put_some, wb_nil, ev_mv, ev_give, ev_pick, ev_eqB, ev_fld, bin_eql, bin_eqlS, ev_box, ev_ldP, ldP_some, ro_int, ro_bool, ro_str, ro1_int, ro1_str, ro1_bool, got_agg, List.map_cons, List.map_nil, List.getD_cons_zero, List.getD_cons_succ, List.getElem?_cons_zero, List.getElem?_cons_succ, List.length_cons, List.length_nil, List.replicate_succ, List.replicate_zero, List.cons_append, List.nil_append, Nat.reduceAdd, Nat.reduceSub, Bool.false_eq_true, Option.map_some, ↓reduceIte, List.all_cons, List.all_nil, Bool.and_self, Nat.zero_add, List.length_append, q6, q7, u6, u7]
    exact ⟨_, trim1 ho rfl, by unfold samePc; simp only [k0, k1, k2, Bool.false_and, Bool.true_and, Bool.and_false], rfl⟩
  rcases bf (p.dig == q.dig) with k3 | k3
  · simp (maxSteps := 2000000) (disch := first | omega | simp only [List.length_append, List.length_cons, List.length_nil, List.length_map] <;> omega) only [sf29, k0, k1, k2, k3, cv_agg, cell_str, cell_int, cell_bool, getA0, getA, List.append_assoc, Nat.add_zero, List.set_cons_zero, List.set_cons_succ, flg_bool, exc_agg, swp_seq, swp_reg, swp_ret, seqK_n, evK_some, appK_eq, grd_t, srun_nil, srun_cons, stepK_grd, fin_ret, swpF_eq, sk_mv, sk_give, sk_pick, sk_bin, sk_eqB, sk_fld, sk_load, sk_box, get_mk, raw_slot, raw_lit, put_some, wb_nil, ev_mv, ev_give, ev_pick, ev_eqB, ev_fld, bin_eql, bin_eqlS, ev_box, ev_ldP, ldP_some, ro_int, ro_bool, ro_str, ro1_int, ro1_str, ro1_bool, got_agg, List.map_cons, List.map_nil, List.getD_cons_zero, List.getD_cons_succ, List.getElem?_cons_zero, List.getElem?_cons_succ, List.length_cons, List.length_nil, List.replicate_succ, List.replicate_zero, List.cons_append, List.nil_append, Nat.reduceAdd, Nat.reduceSub, Bool.false_eq_true, Option.map_some, ↓reduceIte, List.all_cons, List.all_nil, Bool.and_self, Nat.zero_add, List.length_append, q6, q7, u6, u7]
    exact ⟨_, trim1 ho rfl, by unfold samePc; simp only [k0, k1, k2, k3, Bool.false_and, Bool.true_and, Bool.and_false], rfl⟩
  rcases bf (p.cl == q.cl && p.cr == q.cr) with k4 | k4
  · simp (maxSteps := 2000000) (disch := first | omega | simp only [List.length_append, List.length_cons, List.length_nil, List.length_map] <;> omega) only [sf29, k0, k1, k2, k3, k4, cv_agg, eq_pair, cell_str, cell_int, cell_bool, getA0, getA, ev_ldA, List.drop_succ_cons, List.drop_zero, List.take_succ_cons, List.take_zero, List.append_assoc, Nat.add_zero, List.set_cons_zero, List.set_cons_succ, apO_some, flg_bool, exc_agg, swp_seq, swp_reg, swp_ret, seqK_n, evK_some, appK_eq, grd_t, srun_nil, srun_cons, stepK_grd, fin_ret, swpF_eq, sk_mv, sk_give, sk_pick, sk_bin, sk_eqB, sk_eqA, sk_fld, sk_load, sk_box, get_mk, raw_slot, raw_lit, put_some, wb_nil, ev_mv, ev_give, ev_pick, ev_eqB, ev_fld, bin_eql, bin_eqlS, ev_box, ev_ldP, ldP_some, ro_int, ro_bool, ro_str, ro_agg, ro1_int, ro1_str, ro1_bool, got_agg, List.map_cons, List.map_nil, List.getD_cons_zero, List.getD_cons_succ, List.getElem?_cons_zero, List.getElem?_cons_succ, List.length_cons, List.length_nil, List.replicate_succ, List.replicate_zero, List.cons_append, List.nil_append, Nat.reduceAdd, Nat.reduceSub, Bool.false_eq_true, Option.map_some, ↓reduceIte, List.all_cons, List.all_nil, Bool.and_self, Nat.zero_add, List.length_append, Nat.le_refl, q6, q7, u6, u7]
    exact ⟨_, trim1 ho rfl, by unfold samePc; simp only [k0, k1, k2, k3, k4, Bool.false_and, Bool.true_and, Bool.and_false], rfl⟩
  simp (maxSteps := 2000000) (disch := first | omega | simp only [List.length_append, List.length_cons, List.length_nil, List.length_map] <;> omega) only [sf29, k0, k1, k2, k3, k4, q1, q2, q3, u1, u2, u3, cv_agg, eq_pair, cell_str, cell_int, cell_bool, getA0, getA, ev_ldA, List.drop_succ_cons, List.drop_zero, List.take_succ_cons, List.take_zero, List.append_assoc, Nat.add_zero, List.set_cons_zero, List.set_cons_succ, apO_some, flg_bool, exc_agg, swp_seq, swp_reg, seqK_n, evK_some, appK_eq, grd_t, srun_nil, srun_cons, stepK_call, stepK_grd, swpF_eq, sk_mv, sk_give, sk_pick, sk_bin, sk_eqB, sk_eqA, sk_fld, sk_load, sk_box, get_mk, raw_slot, raw_lit, put_some, wb_nil, ev_mv, ev_give, ev_pick, ev_eqB, ev_fld, bin_eql, bin_eqlS, ev_box, ev_ldP, ldP_some, ro_int, ro_bool, ro_str, ro_agg, ro1_int, ro1_str, ro1_bool, got_agg, pubs, pubsFrom, List.map_cons, List.map_nil, List.getD_cons_zero, List.getD_cons_succ, List.getElem?_cons_zero, List.getElem?_cons_succ, List.length_cons, List.length_nil, List.replicate_succ, List.replicate_zero, List.cons_append, List.nil_append, Nat.reduceAdd, Nat.reduceSub, Bool.false_eq_true, Option.map_some, ↓reduceIte, List.all_cons, List.all_nil, Bool.and_self, Nat.zero_add, List.length_append, Nat.le_refl, q6, q7, u6, u7]
  refine callK_intro (x30 (RowAt.mono hp.1 _) (RowAt.mono hq.1 _) (by omega)) ?_
  simp (maxSteps := 2000000) (disch := first | omega | simp only [List.length_append, List.length_cons, List.length_nil, List.length_map] <;> omega) only [List.set_cons_zero, List.set_cons_succ, flg_bool, swp_ret, seqK_n, evK_some, appK_eq, appC_eq, srun_nil, srun_cons, fin_ret, sk_give, sk_pick, get_mk, raw_slot, raw_lit, put_some, wb_nil, ev_give, ev_pick, ro_bool, List.map_cons, List.map_nil, List.getD_cons_zero, List.getD_cons_succ, Bool.false_eq_true, ↓reduceIte]
  exact ⟨_, trim1 ho rfl, by unfold samePc; simp only [k0, k1, k2, k3, k4, Bool.true_and], rfl⟩
def O204 : Orc := O203.add 29 (StC KPcs)
theorem s204 : Sound Tryd.prog O204 := s203.addS c29 (by kernel_rfl) (by
  rintro args r st ⟨p, q, hp, hq, ho, rfl, rfl⟩
  exact ⟨by simp [sf29], g29s p q st hp hq ho⟩)
theorem x29 {p q : Pc} {st : List Ob} (hp : p.ok st) (hq : q.ok st) (ho : okSt st) : O204 29 [.agg p.cells, .agg q.cells] st (.bool (samePc p q)) st := .inr ⟨rfl, rfl, p, q, hp, hq, ho, rfl, rfl⟩
set_option maxHeartbeats 8000000 in
set_option maxRecDepth 20000 in
theorem g31s (a b : Mf) (st : List Ob) (ha : a.ok st) (hb : b.ok st) (ho : okSt st) : swpF O204 sf31 [a.pv, b.pv, .fn 29 [] []] st (fun r st' => r = .bool (sameL a.ps b.ps) ∧ st' = st) := by
  obtain ⟨q1, q2, q3, q4, q6, q7⟩ := ha.1.facts
  obtain ⟨u1, u2, u3, u4, u6, u7⟩ := hb.1.facts
  have q5 := ha.1.lenL
  have u5 := hb.1.lenL
  have na := ha.2.1
  have i1 := ha.idp 0
  have i2 := hb.idp 0
  simp only [Nat.add_zero] at i1 i2
  rcases bf ((a.ps.length : Int) == (b.ps.length : Int)) with h7 | h7
  · have e : sameL a.ps b.ps = false := by
      rw [Bool.eq_false_iff]; intro h
      rw [sameL_len h] at h7; simp at h7
    rw [e]
    simp (maxSteps := 2000000) (disch := first | omega | simp only [List.length_append, List.length_cons, List.length_nil, List.length_map] <;> omega) only [sf31, h7, q1, q5, u1, u5, nbI, List.set_cons_zero, List.set_cons_succ, flg_bool, swp_seq, swp_reg, swp_ret, swp_cond, seqK_n, seqK_r, condK_t, evK_some, appK_eq, srun_nil, srun_cons, fin_ret, swpF_eq, sk_mv, sk_give, sk_bin, sk_lenL, get_mk, raw_slot, raw_lit, put_some, wb_nil, ev_mv, ev_give, bin_neq, ro_bool, List.map_cons, List.map_nil, List.getD_cons_zero, List.getD_cons_succ, List.length_cons, List.length_nil, List.replicate_succ, List.replicate_zero, List.cons_append, List.nil_append, Nat.reduceAdd, Nat.reduceSub, true_and, Bool.false_eq_true, ↓reduceIte, Nat.zero_add, Bool.not_false]
    first | exact ⟨_, .same⟩ | exact ⟨_, .same, rfl⟩ | exact ⟨_, .same, rfl, rfl⟩
  have hlk : a.ps.length = b.ps.length := by rw [beq_iff_eq] at h7; omega
  simp (maxSteps := 2000000) (disch := first | omega | simp only [List.length_append, List.length_cons, List.length_nil, List.length_map] <;> omega) only [sf31, h7, q1, q5, u1, u5, nbI, List.set_cons_zero, List.set_cons_succ, flg_bool, swp_seq, swp_reg, swp_skip, swp_block, swp_cond, seqK_n, condK_f, evK_some, appK_eq, srun_nil, srun_cons, swpF_eq, sk_mv, sk_give, sk_bin, sk_lenL, get_mk, raw_slot, raw_lit, put_some, wb_nil, ev_mv, ev_give, bin_neq, ro_int, ro_bool, List.map_cons, List.map_nil, List.getD_cons_zero, List.getD_cons_succ, List.length_cons, List.length_nil, List.replicate_succ, List.replicate_zero, List.cons_append, List.nil_append, Nat.reduceAdd, Nat.reduceSub, Bool.false_eq_true, ↓reduceIte, Nat.zero_add, Bool.not_true]
  refine swp_lp (fun S => ∃ (i : Nat), i ≤ a.ps.length ∧ (∀ (j : Nat) (p q : Pc), j < i → a.ps[j]? = some p → b.ps[j]? = some q → samePc p q = true) ∧ S = ⟨[a.pv, b.pv, .fn 29 [] []] ++ List.replicate 12 .undef ++ [a.pv, .int .i64 a.ps.length, .int .i64 i] ++ List.replicate 14 .undef, st⟩)
      (fun S => match S.get 17 with | .int _ k => ((a.ps.length : Int) - k).toNat | _ => 0)
      ⟨[a.pv, b.pv, .fn 29 [] []] ++ List.replicate 12 .undef ++ [a.pv, .int .i64 a.ps.length, .int .i64 0] ++ List.replicate 14 .undef, st⟩ ?_ ⟨0, Nat.zero_le _, fun j p q h => by omega, rfl⟩ ?_
  · refine Forget.of ?_
    repeat first | exact fg_e | refine fg_d ?_ | refine fg_k rfl ?_
  rintro S ⟨i, hi, hall, rfl⟩
  by_cases him : i = a.ps.length
  · have hd : decide ((i : Int) < (a.ps.length : Int)) = false := by rw [decide_eq_false_iff_not]; omega
    have e : sameL a.ps b.ps = true := (sameL_iff hlk).2 fun j p q hp hq => hall j p q (by rw [him]; exact (List.getElem?_eq_some_iff.1 hp).1) hp hq
    rw [e]
    simp (maxSteps := 2000000) (disch := first | omega | simp only [List.length_append, List.length_cons, List.length_nil, List.length_map] <;> omega) only [hd, List.set_cons_zero, List.set_cons_succ, lpK_e, flg_bool, swp_seq, swp_reg, swp_ret, swp_exit, swp_cond, seqK_n, seqK_e, blkK_e, condK_f, evK_some, appK_eq, srun_nil, srun_cons, fin_ret, sk_give, sk_bin, get_mk, raw_slot, raw_lit, put_some, wb_nil, ev_give, bin_lss, ro_bool, List.map_cons, List.map_nil, List.getD_cons_zero, List.getD_cons_succ, List.replicate_succ, List.replicate_zero, List.cons_append, List.nil_append, true_and, Bool.false_eq_true, ↓reduceIte]
    first | exact ⟨_, .same⟩ | exact ⟨_, .same, rfl⟩ | exact ⟨_, .same, rfl, rfl⟩
  have hd : decide ((i : Int) < (a.ps.length : Int)) = true := by rw [decide_eq_true_eq]; omega
  have hia : i < a.ps.length := by omega
  have hib : i < b.ps.length := by omega
  have fin : ((a.ps.length : Int) - ((i + 1 : Nat) : Int)).toNat < ((a.ps.length : Int) - (i : Int)).toNat := by omega
  have z1 := ha.1.idxB hia .i64
  have z2 := fun x => ha.at' hia x
  have z20 := z2 []
  rw [List.append_nil] at z20
  have y1 := hb.1.idxB hib .i64
  have y2 := fun x => hb.at' hib x
  have hpa := List.getElem?_eq_getElem hia
  have hpb := List.getElem?_eq_getElem hib
  have oa := ha.2.2 _ (List.getElem_mem hia)
  have ob := hb.2.2 _ (List.getElem_mem hib)
  obtain ⟨p, ep⟩ : ∃ p, a.ps[i] = p := ⟨_, rfl⟩
  obtain ⟨q, eq⟩ : ∃ q, b.ps[i] = q := ⟨_, rfl⟩
  rw [ep] at z20 hpa oa
  rw [eq] at y2 hpb ob
  have m1 := ro1_pc oa
  have m2 := ro1_pc ob
  have sa := st_aggA (st := st) (l := [.cells [.str [], .bool false, .int .i64 0, .nilS, .int .i64 0, .int .i64 0, .int .i64 0]]) (i := 0) (n := 7) (b := true) (xs := p.cells) rfl m1 (cell_pc oa) rfl rfl
  have sb := st_aggA (st := st) (l := [.cells p.cells, .cells [.str [], .bool false, .int .i64 0, .nilS, .int .i64 0, .int .i64 0, .int .i64 0]]) (i := 1) (n := 7) (b := true) (xs := q.cells) rfl m2 (cell_pc ob) rfl rfl
  simp only [Nat.add_zero] at sa
  have o2 : okSt (st ++ [.cells p.cells, .cells q.cells]) := by
    have := okP (ob.mono [.cells p.cells]) (okP oa ho)
    simpa using this
  simp (maxSteps := 2000000) (disch := first | omega | simp only [List.length_append, List.length_cons, List.length_nil, List.length_map] <;> omega) only [hd, z1, z20, y1, y2, m1, m2, sa, sb, plen, ptake, u1, getA0, getA, ev_ldA, List.drop_zero, List.append_assoc, List.set_cons_zero, List.set_cons_succ, stepK_callv, callvK_fn, apO_some, exc_int, exc_agg, exc_fn, sk_idxB, swp_seq, swp_reg, swp_skip, swp_block, swp_cond, seqK_n, condK_t, evK_some, appK_eq, srun_nil, srun_cons, sk_mv, sk_take, sk_bin, sk_load, sk_store, sk_alloc, get_mk, raw_slot, put_some, put_none, wb_nil, ev_mv, ev_take, bin_lss, ev_alloc, ro_int, ro_fn, ro_agg, got_int, got_agg, pubs, pubsFrom, List.map_cons, List.map_nil, List.getD_cons_zero, List.getD_cons_succ, List.getElem?_cons_zero, List.getElem?_cons_succ, List.length_cons, List.length_nil, List.replicate_succ, List.replicate_zero, List.cons_append, List.nil_append, Bool.false_eq_true, ↓reduceIte, List.append_nil, Nat.zero_add, List.length_append, Nat.le_refl]
  refine callK_intro (x29 (oa.mono _) (ob.mono _) o2) ?_
  rcases bf (samePc p q) with e1 | e1
  · have e : sameL a.ps b.ps = false := by
      rw [Bool.eq_false_iff]; intro h2
      rw [(sameL_iff hlk).1 h2 i p q hpa hpb] at e1; cases e1
    rw [e, e1]
    simp (maxSteps := 2000000) (disch := first | omega | simp only [List.length_append, List.length_cons, List.length_nil, List.length_map] <;> omega) only [List.set_cons_zero, List.set_cons_succ, lpK_r, flg_bool, swp_seq, swp_reg, swp_ret, swp_cond, seqK_n, seqK_r, blkK_r, condK_t, evK_some, appK_eq, appC_eq, srun_nil, srun_cons, fin_ret, sk_give, sk_un, get_mk, raw_slot, raw_lit, put_some, wb_nil, ev_give, ev_not, ro_bool, List.map_cons, List.map_nil, List.getD_cons_zero, List.getD_cons_succ, true_and, Bool.false_eq_true, ↓reduceIte, Bool.not_false]
    first | exact ⟨_, trim1 ho rfl⟩ | exact ⟨_, trim1 ho rfl, rfl⟩ | exact ⟨_, trim1 ho rfl, rfl, rfl⟩ | exact ⟨_, trim1 ho rfl, by simp, rfl⟩ | exact ⟨_, trim1 ho rfl, by simp⟩
  rw [e1]
  simp (maxSteps := 2000000) (disch := first | omega | simp only [List.length_append, List.length_cons, List.length_nil, List.length_map] <;> omega) only [List.set_cons_zero, List.set_cons_succ, lpK_n, swp_reg, swp_skip, swp_cond, seqK_n, blkK_n, condK_f, evK_some, appK_eq, appC_eq, srun_nil, srun_cons, sk_mv, sk_bin, sk_un, get_mk, raw_slot, raw_lit, put_some, wb_nil, ev_mv, ev_not, bin_add, ro_int, List.map_cons, List.map_nil, List.getD_cons_zero, List.getD_cons_succ, Bool.not_true, wrap_i64]
  refine ⟨_, Forget.cut (st := st ++ [.cells p.cells, .cells q.cells]) ?_ (Nat.le_refl _) (by rw [List.take_left]) ?_ ho, ⟨i + 1, by omega, fun j p' q' hj hp' hq' => ?_, rfl⟩, by exact fin⟩
  · repeat first | exact fg_e | refine fg_d ?_ | refine fg_k rfl ?_
  · simp [idOks, idOk, i1, i2]
  · rcases Nat.lt_succ_iff_lt_or_eq.1 hj with h | rfl
    · exact hall j p' q' h hp' hq'
    · rw [hpa] at hp'; rw [hpb] at hq'
      obtain rfl := Option.some.inj hp'
      obtain rfl := Option.some.inj hq'
      exact e1
def O205 : Orc := O204.add 31 (StC fun st args r => ∃ a b : Mf, a.ok st ∧ b.ok st ∧ okSt st ∧ args = [a.pv, b.pv, .fn 29 [] []] ∧ r = .bool (sameL a.ps b.ps))
theorem s205 : Sound Tryd.prog O205 := s204.addS c31 (by kernel_rfl) (by
  rintro args r st ⟨a, b, ha, hb, ho, rfl, rfl⟩
  exact ⟨by simp [sf31], g31s a b st ha hb ho⟩)
theorem x31 {a b : Mf} {st : List Ob} (ha : a.ok st) (hb : b.ok st) (ho : okSt st) : O205 31 [a.pv, b.pv, .fn 29 [] []] st (.bool (sameL a.ps b.ps)) st := .inr ⟨rfl, rfl, a, b, ha, hb, ho, rfl, rfl⟩
set_option maxHeartbeats 8000000 in
set_option maxRecDepth 20000 in
theorem g14s (a b : Mf) (st : List Ob) (ha : a.ok st) (hb : b.ok st) (ho : okSt st) : swpF O205 sf14 [.agg a.cells, .agg b.cells] st (fun r st' => r = .bool (sameM a b) ∧ st' = st) := by
  obtain ⟨q1, q2, q3, q4, q6, q7⟩ := ha.1.facts
  obtain ⟨u1, u2, u3, u4, u6, u7⟩ := hb.1.facts
  have q5 := ha.1.lenL
  have u5 := hb.1.lenL
  have cv := ha.1.cv
  have cw := hb.1.cv
  have i1 := ha.idp 2
  have i2 := hb.idp 2
  have o2 : okSt (st ++ [.cells [.int .i64 a.au, .int .i64 a.ve, .int .i64 a.pr, .int .i64 a.ep, .int .i64 a.ne, .int .i64 a.se, .int .i64 a.sh, a.pv], .cells [.int .i64 b.au, .int .i64 b.ve, .int .i64 b.pr, .int .i64 b.ep, .int .i64 b.ne, .int .i64 b.se, .int .i64 b.sh, b.pv]]) := by
    refine okSt_appL ho ?_
    simp only [List.all_cons, List.all_nil, Bool.and_true, obOk, idOks, idOk, List.length_cons, List.length_nil, Nat.zero_add, Bool.true_and]
    rw [i1, i2]; rfl
  simp only [Mf.cells]
  rcases bf (a.au == b.au) with h0 | h0
  · simp (maxSteps := 2000000) (disch := first | omega | simp only [List.length_append, List.length_cons, List.length_nil, List.length_map] <;> omega) only [sf14, h0, cv_agg, cell_int, getA0, getA, List.append_assoc, Nat.add_zero, List.set_cons_zero, List.set_cons_succ, flg_bool, exc_agg, exc_fn, swp_seq, swp_reg, swp_ret, seqK_n, evK_some, appK_eq, grd_t, srun_nil, srun_cons, stepK_grd, fin_ret, swpF_eq, sk_mv, sk_take, sk_give, sk_pick, sk_bin, sk_fld, sk_load, sk_box, get_mk, raw_slot, raw_lit, put_some, wb_nil, ev_mv, ev_take, ev_give, ev_pick, ev_fld, bin_eql, ev_box, ev_ldP, ldP_some, ro_int, ro_bool, ro1_int, got_fn, got_agg, List.map_cons, List.map_nil, List.getD_cons_zero, List.getD_cons_succ, List.getElem?_cons_zero, List.getElem?_cons_succ, List.length_cons, List.length_nil, List.replicate_succ, List.replicate_zero, List.cons_append, List.nil_append, Nat.reduceAdd, Nat.reduceSub, Bool.false_eq_true, Option.map_some, ↓reduceIte, List.all_cons, List.all_nil, Bool.and_self, Nat.zero_add, List.length_append, q6, q7, u6, u7]
    first | exact ⟨_, trim1 ho rfl, by simp [sameM, sameH, h0], rfl⟩ | exact ⟨_, trim1 ho rfl, by simp [sameM, sameH, h0]⟩ | exact ⟨_, .same, by simp [sameM, sameH, h0], rfl⟩
  rcases bf (a.ve == b.ve) with h1 | h1
  · simp (maxSteps := 2000000) (disch := first | omega | simp only [List.length_append, List.length_cons, List.length_nil, List.length_map] <;> omega) only [sf14, h0, h1, cv_agg, cell_int, getA0, getA, List.append_assoc, Nat.add_zero, List.set_cons_zero, List.set_cons_succ, flg_bool, exc_agg, exc_fn, swp_seq, swp_reg, swp_ret, seqK_n, evK_some, appK_eq, grd_t, srun_nil, srun_cons, stepK_grd, fin_ret, swpF_eq, sk_mv, sk_take, sk_give, sk_pick, sk_bin, sk_fld, sk_load, sk_box, get_mk, raw_slot, raw_lit, put_some, wb_nil, ev_mv, ev_take, ev_give, ev_pick, ev_fld, bin_eql, ev_box, ev_ldP, ldP_some, ro_int, ro_bool, ro1_int, got_fn, got_agg, List.map_cons, List.map_nil, List.getD_cons_zero, List.getD_cons_succ, List.getElem?_cons_zero, List.getElem?_cons_succ, List.length_cons, List.length_nil, List.replicate_succ, List.replicate_zero, List.cons_append, List.nil_append, Nat.reduceAdd, Nat.reduceSub, Bool.false_eq_true, Option.map_some, ↓reduceIte, List.all_cons, List.all_nil, Bool.and_self, Nat.zero_add, List.length_append, q6, q7, u6, u7]
    first | exact ⟨_, trim1 ho rfl, by simp [sameM, sameH, h1], rfl⟩ | exact ⟨_, trim1 ho rfl, by simp [sameM, sameH, h1]⟩ | exact ⟨_, .same, by simp [sameM, sameH, h1], rfl⟩
  rcases bf (a.pr == b.pr) with h2 | h2
  · simp (maxSteps := 2000000) (disch := first | omega | simp only [List.length_append, List.length_cons, List.length_nil, List.length_map] <;> omega) only [sf14, h0, h1, h2, cv_agg, cell_int, getA0, getA, List.append_assoc, Nat.add_zero, List.set_cons_zero, List.set_cons_succ, flg_bool, exc_agg, exc_fn, swp_seq, swp_reg, swp_ret, seqK_n, evK_some, appK_eq, grd_t, srun_nil, srun_cons, stepK_grd, fin_ret, swpF_eq, sk_mv, sk_take, sk_give, sk_pick, sk_bin, sk_fld, sk_load, sk_box, get_mk, raw_slot, raw_lit, put_some, wb_nil, ev_mv, ev_take, ev_give, ev_pick, ev_fld, bin_eql, ev_box, ev_ldP, ldP_some, ro_int, ro_bool, ro1_int, got_fn, got_agg, List.map_cons, List.map_nil, List.getD_cons_zero, List.getD_cons_succ, List.getElem?_cons_zero, List.getElem?_cons_succ, List.length_cons, List.length_nil, List.replicate_succ, List.replicate_zero, List.cons_append, List.nil_append, Nat.reduceAdd, Nat.reduceSub, Bool.false_eq_true, Option.map_some, ↓reduceIte, List.all_cons, List.all_nil, Bool.and_self, Nat.zero_add, List.length_append, q6, q7, u6, u7]
    first | exact ⟨_, trim1 ho rfl, by simp [sameM, sameH, h2], rfl⟩ | exact ⟨_, trim1 ho rfl, by simp [sameM, sameH, h2]⟩ | exact ⟨_, .same, by simp [sameM, sameH, h2], rfl⟩
  rcases bf (a.ep == b.ep) with h3 | h3
  · simp (maxSteps := 2000000) (disch := first | omega | simp only [List.length_append, List.length_cons, List.length_nil, List.length_map] <;> omega) only [sf14, h0, h1, h2, h3, cv_agg, cell_int, getA0, getA, List.append_assoc, Nat.add_zero, List.set_cons_zero, List.set_cons_succ, flg_bool, exc_agg, exc_fn, swp_seq, swp_reg, swp_ret, seqK_n, evK_some, appK_eq, grd_t, srun_nil, srun_cons, stepK_grd, fin_ret, swpF_eq, sk_mv, sk_take, sk_give, sk_pick, sk_bin, sk_fld, sk_load, sk_box, get_mk, raw_slot, raw_lit, put_some, wb_nil, ev_mv, ev_take, ev_give, ev_pick, ev_fld, bin_eql, ev_box, ev_ldP, ldP_some, ro_int, ro_bool, ro1_int, got_fn, got_agg, List.map_cons, List.map_nil, List.getD_cons_zero, List.getD_cons_succ, List.getElem?_cons_zero, List.getElem?_cons_succ, List.length_cons, List.length_nil, List.replicate_succ, List.replicate_zero, List.cons_append, List.nil_append, Nat.reduceAdd, Nat.reduceSub, Bool.false_eq_true, Option.map_some, ↓reduceIte, List.all_cons, List.all_nil, Bool.and_self, Nat.zero_add, List.length_append, q6, q7, u6, u7]
    first | exact ⟨_, trim1 ho rfl, by simp [sameM, sameH, h3], rfl⟩ | exact ⟨_, trim1 ho rfl, by simp [sameM, sameH, h3]⟩ | exact ⟨_, .same, by simp [sameM, sameH, h3], rfl⟩
  rcases bf (a.ne == b.ne) with h4 | h4
  · simp (maxSteps := 2000000) (disch := first | omega | simp only [List.length_append, List.length_cons, List.length_nil, List.length_map] <;> omega) only [sf14, h0, h1, h2, h3, h4, cv_agg, cell_int, getA0, getA, List.append_assoc, Nat.add_zero, List.set_cons_zero, List.set_cons_succ, flg_bool, exc_agg, exc_fn, swp_seq, swp_reg, swp_ret, seqK_n, evK_some, appK_eq, grd_t, srun_nil, srun_cons, stepK_grd, fin_ret, swpF_eq, sk_mv, sk_take, sk_give, sk_pick, sk_bin, sk_fld, sk_load, sk_box, get_mk, raw_slot, raw_lit, put_some, wb_nil, ev_mv, ev_take, ev_give, ev_pick, ev_fld, bin_eql, ev_box, ev_ldP, ldP_some, ro_int, ro_bool, ro1_int, got_fn, got_agg, List.map_cons, List.map_nil, List.getD_cons_zero, List.getD_cons_succ, List.getElem?_cons_zero, List.getElem?_cons_succ, List.length_cons, List.length_nil, List.replicate_succ, List.replicate_zero, List.cons_append, List.nil_append, Nat.reduceAdd, Nat.reduceSub, Bool.false_eq_true, Option.map_some, ↓reduceIte, List.all_cons, List.all_nil, Bool.and_self, Nat.zero_add, List.length_append, q6, q7, u6, u7]
    first | exact ⟨_, trim1 ho rfl, by simp [sameM, sameH, h4], rfl⟩ | exact ⟨_, trim1 ho rfl, by simp [sameM, sameH, h4]⟩ | exact ⟨_, .same, by simp [sameM, sameH, h4], rfl⟩
  rcases bf (a.se == b.se) with h5 | h5
  · simp (maxSteps := 2000000) (disch := first | omega | simp only [List.length_append, List.length_cons, List.length_nil, List.length_map] <;> omega) only [sf14, h0, h1, h2, h3, h4, h5, cv_agg, cell_int, getA0, getA, List.append_assoc, Nat.add_zero, List.set_cons_zero, List.set_cons_succ, flg_bool, exc_agg, exc_fn, swp_seq, swp_reg, swp_ret, seqK_n, evK_some, appK_eq, grd_t, srun_nil, srun_cons, stepK_grd, fin_ret, swpF_eq, sk_mv, sk_take, sk_give, sk_pick, sk_bin, sk_fld, sk_load, sk_box, get_mk, raw_slot, raw_lit, put_some, wb_nil, ev_mv, ev_take, ev_give, ev_pick, ev_fld, bin_eql, ev_box, ev_ldP, ldP_some, ro_int, ro_bool, ro1_int, got_fn, got_agg, List.map_cons, List.map_nil, List.getD_cons_zero, List.getD_cons_succ, List.getElem?_cons_zero, List.getElem?_cons_succ, List.length_cons, List.length_nil, List.replicate_succ, List.replicate_zero, List.cons_append, List.nil_append, Nat.reduceAdd, Nat.reduceSub, Bool.false_eq_true, Option.map_some, ↓reduceIte, List.all_cons, List.all_nil, Bool.and_self, Nat.zero_add, List.length_append, q6, q7, u6, u7]
    first | exact ⟨_, trim1 ho rfl, by simp [sameM, sameH, h5], rfl⟩ | exact ⟨_, trim1 ho rfl, by simp [sameM, sameH, h5]⟩ | exact ⟨_, .same, by simp [sameM, sameH, h5], rfl⟩
  rcases bf (a.sh == b.sh) with h6 | h6
  · simp (maxSteps := 2000000) (disch := first | omega | simp only [List.length_append, List.length_cons, List.length_nil, List.length_map] <;> omega) only [sf14, h0, h1, h2, h3, h4, h5, h6, cv_agg, cell_int, getA0, getA, List.append_assoc, Nat.add_zero, List.set_cons_zero, List.set_cons_succ, flg_bool, exc_agg, exc_fn, swp_seq, swp_reg, swp_ret, seqK_n, evK_some, appK_eq, grd_t, srun_nil, srun_cons, stepK_grd, fin_ret, swpF_eq, sk_mv, sk_take, sk_give, sk_pick, sk_bin, sk_fld, sk_load, sk_box, get_mk, raw_slot, raw_lit, put_some, wb_nil, ev_mv, ev_take, ev_give, ev_pick, ev_fld, bin_eql, ev_box, ev_ldP, ldP_some, ro_int, ro_bool, ro1_int, got_fn, got_agg, List.map_cons, List.map_nil, List.getD_cons_zero, List.getD_cons_succ, List.getElem?_cons_zero, List.getElem?_cons_succ, List.length_cons, List.length_nil, List.replicate_succ, List.replicate_zero, List.cons_append, List.nil_append, Nat.reduceAdd, Nat.reduceSub, Bool.false_eq_true, Option.map_some, ↓reduceIte, List.all_cons, List.all_nil, Bool.and_self, Nat.zero_add, List.length_append, q6, q7, u6, u7]
    first | exact ⟨_, trim1 ho rfl, by simp [sameM, sameH, h6], rfl⟩ | exact ⟨_, trim1 ho rfl, by simp [sameM, sameH, h6]⟩ | exact ⟨_, .same, by simp [sameM, sameH, h6], rfl⟩
  have eh : sameH a b = true := by unfold sameH; simp only [h0, h1, h2, h3, h4, h5, h6, Bool.and_self]
  simp (maxSteps := 2000000) (disch := first | omega | simp only [List.length_append, List.length_cons, List.length_nil, List.length_map] <;> omega) only [sf14, h0, h1, h2, h3, h4, h5, h6, q1, q2, q3, u1, u2, u3, cv_agg, cell_int, getA0, getA, List.append_assoc, Nat.add_zero, List.set_cons_zero, List.set_cons_succ, flg_bool, exc_agg, exc_fn, swp_seq, swp_reg, seqK_n, evK_some, appK_eq, grd_t, srun_nil, srun_cons, stepK_call, stepK_grd, swpF_eq, sk_mv, sk_take, sk_give, sk_pick, sk_bin, sk_fld, sk_load, sk_box, get_mk, raw_slot, raw_lit, put_some, wb_nil, ev_mv, ev_take, ev_give, ev_pick, ev_fld, bin_eql, ev_box, ev_ldP, ldP_some, ro_int, ro_bool, ro1_int, got_fn, got_agg, pubs, pubsFrom, List.map_cons, List.map_nil, List.getD_cons_zero, List.getD_cons_succ, List.getElem?_cons_zero, List.getElem?_cons_succ, List.length_cons, List.length_nil, List.replicate_succ, List.replicate_zero, List.cons_append, List.nil_append, Nat.reduceAdd, Nat.reduceSub, Bool.false_eq_true, Option.map_some, ↓reduceIte, List.all_cons, List.all_nil, Bool.and_self, Nat.zero_add, List.length_append, q6, q7, u6, u7]
  refine callK_intro (x31 (ha.mono _) (hb.mono _) o2) ?_
  simp (maxSteps := 2000000) (disch := first | omega | simp only [List.length_append, List.length_cons, List.length_nil, List.length_map] <;> omega) only [List.set_cons_zero, List.set_cons_succ, flg_bool, swp_ret, seqK_n, evK_some, appK_eq, appC_eq, srun_nil, srun_cons, fin_ret, sk_give, sk_pick, get_mk, raw_slot, raw_lit, put_some, wb_nil, ev_give, ev_pick, ro_bool, List.map_cons, List.map_nil, List.getD_cons_zero, List.getD_cons_succ, Bool.false_eq_true, ↓reduceIte]
  first | exact ⟨_, trim1 ho rfl, by simp [sameM, eh], rfl⟩ | exact ⟨_, trim1 ho rfl, by simp [sameM, eh]⟩ | exact ⟨_, .same, by simp [sameM, eh], rfl⟩
def O206 : Orc := O205.add 14 (StC fun st args r => ∃ a b : Mf, a.ok st ∧ b.ok st ∧ okSt st ∧ args = [.agg a.cells, .agg b.cells] ∧ r = .bool (sameM a b))
theorem s206 : Sound Tryd.prog O206 := s205.addS c14 (by kernel_rfl) (by
  rintro args r st ⟨a, b, ha, hb, ho, rfl, rfl⟩
  exact ⟨by simp [sf14], g14s a b st ha hb ho⟩)
end Go.Sh.F
namespace Go.Sh.F
open Go.PathLaw Go.Proofs
def hasI (b : Bool) : Int := if b then 1 else 0
def sixI (p : Pc) : List Int := [hasI p.has, p.size, p.dig, p.cl, p.cr, (p.ch.length : Int)]
def pieceB (p : Pc) : List UInt8 := W.strB p.path ++ (nsB (sixI p) ++ nsB p.ch)
def headI (m : Mf) : List Int := [m.au, m.ve, m.pr, m.ep, m.ne, m.se, m.sh, (m.ps.length : Int)]
def bytesF (m : Mf) : List UInt8 := nsB (headI m) ++ m.ps.flatMap pieceB
theorem x36 {v : SV} {l : List UInt8} {w : SV} {ns : List Int} {st : List Ob} (hv : W.rdv v l) (hw : RowI st w ns) (hl : l.length ≤ 1073741824) (hn : ns.length ≤ 16777216) : O206 36 [v, w] st (numsV v l ns) st := (by repeat first | exact Or.inr ⟨rfl, rfl, v, l, w, ns, hv, hw, hl, hn, rfl, rfl⟩ | refine Or.inl ?_)
theorem x37 {v : SV} {l : List UInt8} {s : List UInt8} {st : List Ob} (hv : W.rdv v l) (hl : l.length ≤ 549755813888) : O206 37 [v, .str s] st (.sl (W.bsv (l ++ W.strB s)) (l.length + (W.strB s).length) (.excl 1)) st := (.inl (.inl (.inl (.inl (.inl (.inl (w37 hv hl)))))))
theorem pget5 (p : Pc) : p.cells[5]? = some (.int .i64 p.cl) := rfl
theorem pget6 (p : Pc) : p.cells[6]? = some (.int .i64 p.cr) := rfl
theorem list_nil_or {α : Type} (l : List α) : l = [] ∨ l ≠ [] := by cases l <;> simp
theorem idOks_bs (k : Nat) (l : List UInt8) : idOks k (l.map fun b => SV.int .u8 b.toNat) = true := by
  induction l with
  | nil => rfl
  | cons x l ih => simp only [List.map_cons, idOks, idOk, Bool.true_and]; exact ih
theorem strB_len (s : List UInt8) : (W.strB s).length ≤ 16388 := by
  unfold W.strB; rw [List.length_append, List.length_take]; show 4 + _ ≤ _; omega
theorem pieceB_len (p : Pc) : (pieceB p).length ≤ 16412 + 4 * p.ch.length := by
  unfold pieceB; rw [List.length_append, List.length_append, nsB_len, nsB_len]
  have := strB_len p.path
  show _ + (4 * 6 + _) ≤ _; omega
theorem flat_le {l : List Pc} {n : Nat} (h : ∀ p ∈ l, p.ch.length ≤ n) : (l.flatMap pieceB).length ≤ l.length * (16412 + 4 * n) := by
  induction l with
  | nil => simp
  | cons p r ih =>
    rw [List.flatMap_cons, List.length_append, List.length_cons, Nat.succ_mul]
    have h1 := pieceB_len p
    have h2 := h p List.mem_cons_self
    have h3 := ih fun q hq => h q (List.mem_cons_of_mem _ hq)
    omega
def fitB (m : Mf) : Prop := m.ps.length ≤ 1024 ∧ ∀ p ∈ m.ps, p.ch.length ≤ 32768
theorem bytes_le {m : Mf} (h : fitB m) (i : Nat) : (nsB (headI m) ++ (m.ps.take i).flatMap pieceB).length ≤ 536870912 := by
  rw [List.length_append, nsB_len]
  have h1 := flat_le (l := m.ps.take i) (n := 32768) fun p hp => h.2 p (List.mem_of_mem_take hp)
  have h2 : (m.ps.take i).length ≤ 1024 := by rw [List.length_take]; have := h.1; omega
  have h3 : (m.ps.take i).length * (16412 + 4 * 32768) ≤ 1024 * (16412 + 4 * 32768) := Nat.mul_le_mul_right _ h2
  show 4 * 8 + _ ≤ _; omega
set_option maxHeartbeats 32000000 in
set_option maxRecDepth 50000 in
theorem g20b (m : Mf) (st : List Ob) (hm : m.ok st) (hB : fitB m) (ho : okSt st) : swpF O206 sf20 [.agg m.cells] st (fun r st' => r = .str (bytesF m) ∧ st' = st) := by
  obtain ⟨q1, q2, q3, q4, q6, q7⟩ := hm.1.facts
  have q5 := hm.1.lenL
  have qv := hm.1.cv
  have nb := hm.2.1
  have idp := hm.idp 1
  have o1 := okM hm ho
  simp only [Mf.cells] at o1 ⊢
  simp (maxSteps := 2000000) (disch := first | omega | simp only [List.length_append, List.length_cons, List.length_nil, List.length_map] <;> omega) only [sf20, q1, q5, q6, q7, cv_agg, cv_int, cell_int, getA0, Nat.add_zero, List.set_cons_zero, List.set_cons_succ, pub_excl2, flg_str, exc_int, exc_nilS, exc_agg, exc_excl, swp_seq, swp_reg, seqK_n, evK_some, appK_eq, srun_nil, srun_cons, stepK_call, swpF_eq, sk_give, sk_fld, sk_load, sk_lenL, sk_bsl, sk_box, get_mk, raw_slot, raw_lit, put_some, wb_nil, ev_give, ev_fld, ev_bsl, ev_box, ev_ldP, ldP_some, ro_int, ro_str, ro1_int, got_excl, got_int, got_nilS, got_agg, pubs, pubsFrom, List.map_cons, List.map_nil, List.getD_cons_zero, List.getD_cons_succ, List.getElem?_cons_zero, List.getElem?_cons_succ, List.length_cons, List.length_nil, List.replicate_succ, List.replicate_zero, List.cons_append, List.nil_append, Nat.reduceAdd, Nat.reduceSub, Nat.reduceLeDiff, Nat.reduceLT, and_true, Bool.false_eq_true, Option.map_some, ↓reduceIte, List.all_cons, List.all_nil, Bool.and_self, List.zip_cons_cons, List.zip_nil_right, rep, fillV, wrCells, List.flatten_cons, List.flatten_nil, List.append_nil, decide_true, Nat.mul_one, Nat.zero_add, Nat.le_refl]
  refine callK_intro (x36 (ns := headI m) (.inl ⟨rfl, rfl⟩) (RowI.mk (.inl rfl) rfl) (by simp) (by show 8 ≤ _; omega)) ?_
  rw [numsV_cons _ _ (by simp [headI]), List.nil_append, List.length_nil, Nat.zero_add]
  simp (maxSteps := 2000000) (disch := first | omega | simp only [List.length_append, List.length_cons, List.length_nil, List.length_map] <;> omega) only [q1, q5, getA0, List.set_cons_zero, List.set_cons_succ, sk_giveP, ev_giveP, pub_excl2, flg_excl, swp_seq, swp_reg, swp_block, seqK_n, evK_some, appK_eq, appC_eq, srun_nil, srun_cons, sk_mv, sk_fld, sk_load, sk_lenL, get_mk, raw_slot, raw_lit, put_some, wb_nil, wb_cons, ev_mv, ev_fld, ev_ldP, ldP_some, ro_int, ro_excl, List.map_cons, List.map_nil, List.getD_cons_zero, List.getD_cons_succ, List.getElem?_cons_zero, List.getElem?_cons_succ, Option.map_some, ↓reduceIte, Nat.zero_add]
  refine swp_lp (fun S => ∃ (i : Nat) (f : Fl) (B : List UInt8), i ≤ m.ps.length ∧ (f = .own 1 ∨ f = .ro) ∧ B = nsB (headI m) ++ (m.ps.take i).flatMap pieceB ∧ S = ⟨[.undef, .ptr st.length 0, .undef, .sl (W.bsv B) B.length f, .undef, .undef, .undef] ++ List.replicate 20 .undef ++ [m.pv, .int .i64 m.ps.length, .int .i64 i] ++ List.replicate 32 .undef, st ++ [.cells [.int .i64 m.au, .int .i64 m.ve, .int .i64 m.pr, .int .i64 m.ep, .int .i64 m.ne, .int .i64 m.se, .int .i64 m.sh, m.pv]]⟩)
      (fun S => match S.get 29 with | .int _ k => ((m.ps.length : Int) - k).toNat | _ => 0)
      ⟨[.undef, .ptr st.length 0, .undef, .sl (W.bsv (nsB (headI m))) (nsB (headI m)).length (.own 1), .undef, .undef, .undef] ++ List.replicate 20 .undef ++ [m.pv, .int .i64 m.ps.length, .int .i64 0] ++ List.replicate 32 .undef, st ++ [.cells [.int .i64 m.au, .int .i64 m.ve, .int .i64 m.pr, .int .i64 m.ep, .int .i64 m.ne, .int .i64 m.se, .int .i64 m.sh, m.pv]]⟩ ?_ ⟨0, .own 1, nsB (headI m), Nat.zero_le _, .inl rfl, by simp, rfl⟩ ?_
  · refine Forget.of ?_
    repeat first | exact fg_e | refine fg_d ?_ | refine fg_k rfl ?_
  rintro S ⟨i, f, B, hi, hf, hBe, rfl⟩
  by_cases him : i = m.ps.length
  · have hd : decide ((i : Int) < (m.ps.length : Int)) = false := by rw [decide_eq_false_iff_not]; omega
    have e : B = bytesF m := by rw [hBe, him, List.take_length]; rfl
    have e3 := fun k (f : Fl) => W.b2s_bsv (st := st ++ [.cells [.int .i64 m.au, .int .i64 m.ve, .int .i64 m.pr, .int .i64 m.ep, .int .i64 m.ne, .int .i64 m.se, .int .i64 m.sh, m.pv]]) (l := B) (n := k) (f := f)
    rcases hf with rfl | rfl
    · simp (maxSteps := 2000000) (disch := first | omega | simp only [List.length_append, List.length_cons, List.length_nil, List.length_map] <;> omega) only [hd, e3, List.set_cons_zero, List.set_cons_succ, lpK_e, flg_str, swp_seq, swp_reg, swp_ret, swp_exit, swp_cond, seqK_n, seqK_e, blkK_e, condK_f, evK_some, appK_eq, srun_nil, srun_cons, fin_ret, sk_mv, sk_give, sk_bin, sk_b2s, get_mk, raw_slot, put_some, wb_nil, ev_mv, ev_give, bin_lss, ro_str, ro_own, List.map_cons, List.map_nil, List.getD_cons_zero, List.getD_cons_succ, List.length_cons, List.length_nil, List.replicate_succ, List.replicate_zero, List.cons_append, List.nil_append, Bool.false_eq_true, ↓reduceIte, Nat.zero_add, List.length_append]
      exact ⟨_, trim1 ho rfl, by rw [e], rfl⟩
    · simp (maxSteps := 2000000) (disch := first | omega | simp only [List.length_append, List.length_cons, List.length_nil, List.length_map] <;> omega) only [hd, e3, List.set_cons_zero, List.set_cons_succ, lpK_e, flg_str, swp_seq, swp_reg, swp_ret, swp_exit, swp_cond, seqK_n, seqK_e, blkK_e, condK_f, evK_some, appK_eq, srun_nil, srun_cons, fin_ret, sk_mv, sk_give, sk_bin, sk_b2s, get_mk, raw_slot, put_some, wb_nil, ev_mv, ev_give, bin_lss, ro_str, ro_ro, List.map_cons, List.map_nil, List.getD_cons_zero, List.getD_cons_succ, List.length_cons, List.length_nil, List.replicate_succ, List.replicate_zero, List.cons_append, List.nil_append, Bool.false_eq_true, ↓reduceIte, Nat.zero_add, List.length_append]
      exact ⟨_, trim1 ho rfl, by rw [e], rfl⟩
  have hd : decide ((i : Int) < (m.ps.length : Int)) = true := by rw [decide_eq_true_eq]; omega
  have hil : i < m.ps.length := by omega
  have fin : ((m.ps.length : Int) - ((i + 1 : Nat) : Int)).toNat < ((m.ps.length : Int) - (i : Int)).toNat := by omega
  have z1 := hm.1.idxB hil .i64
  have z2 := fun x => hm.at' hil x
  have oa := hm.2.2 _ (List.getElem_mem hil)
  have hbc := hB.2 _ (List.getElem_mem hil)
  have hBl := bytes_le hB i
  rw [← hBe] at hBl
  have hnext : B ++ pieceB m.ps[i] = nsB (headI m) ++ (m.ps.take (i + 1)).flatMap pieceB := by
    rw [hBe, ← List.take_append_getElem hil, List.flatMap_append, List.flatMap_cons, List.flatMap_nil, List.append_nil, List.append_assoc]
  obtain ⟨p, ep⟩ : ∃ p, m.ps[i] = p := ⟨_, rfl⟩
  rw [ep] at z2 oa hbc hnext
  have m1 := ro1_pc oa
  obtain ⟨w1, w2, w3, w4, w6, w7⟩ := oa.1.facts
  have w5 := oa.1.lenL
  have sP := st_aggA (st := st) (l := [.cells [.int .i64 m.au, .int .i64 m.ve, .int .i64 m.pr, .int .i64 m.ep, .int .i64 m.ne, .int .i64 m.se, .int .i64 m.sh, m.pv], .cells [.str [], .bool false, .int .i64 0, .nilS, .int .i64 0, .int .i64 0, .int .i64 0]]) (i := 1) (n := 7) (b := true) (xs := p.cells) rfl m1 (cell_pc oa) rfl rfl
  obtain ⟨T, hT0⟩ : ∃ T, T = B ++ W.strB p.path := ⟨_, rfl⟩
  obtain ⟨N, hN⟩ : ∃ N, N = T ++ nsB (sixI p) := ⟨_, rfl⟩
  have hTl : T.length ≤ 1073741824 := by rw [hT0, List.length_append]; have := strB_len p.path; omega
  have hNl : N.length ≤ 1073741824 := by rw [hN, hT0, List.length_append, List.length_append, nsB_len]; have := strB_len p.path; show _ + 4 * 6 ≤ _; omega
  rcases bt p.has with hh | hh
  · skip
    have hT : T = B ++ W.strB p.path := hT0
    have k37 : ∀ s, O206 37 [.sl (W.bsv B) B.length .ro, .str p.path] s (.sl (W.bsv T) T.length (.excl 1)) s := by
      intro s
      have := x37 (st := s) (rdv_ro (l := B) rfl) (s := p.path) (by omega)
      rw [← hT, ← List.length_append, ← hT] at this
      exact this
    have k36 : ∀ s, O206 36 [.sl (W.bsv T) T.length .ro, .sl [.int .i64 1, .int .i64 p.size, .int .i64 p.dig, .int .i64 p.cl, .int .i64 p.cr, .int .i64 p.ch.length] 6 .ro] s (.sl (W.bsv N) N.length (.excl 1)) s := by
      intro s
      have := x36 (st := s) (rdv_ro (l := T) rfl) (RowI.mk (l := [1, p.size, p.dig, p.cl, p.cr, (p.ch.length : Int)]) (n := 6) (.inl rfl) rfl) hTl (by simp)
      rw [numsV_cons _ _ (by simp), ← List.length_append] at this
      have hN' : T ++ nsB [1, p.size, p.dig, p.cl, p.cr, (p.ch.length : Int)] = N := by rw [hN]; simp [sixI, hasI, hh]
      rw [hN'] at this
      exact this
    rcases hf with rfl | rfl
    · simp (maxSteps := 2000000) (disch := first | omega | simp only [List.length_append, List.length_cons, List.length_nil, List.length_map] <;> omega) only [hd, z1, z2, sP, pget1, hh, getA, List.append_assoc, List.set_cons_zero, List.set_cons_succ, exc_int, sk_idxB, swp_seq, swp_reg, swp_skip, swp_block, swp_cond, seqK_n, condK_t, evK_some, appK_eq, srun_nil, srun_cons, sk_take, sk_bin, sk_fld, sk_load, sk_store, sk_alloc, get_mk, raw_slot, raw_lit, put_some, put_none, wb_nil, ev_take, ev_fld, bin_lss, ev_alloc, ev_ldP, ldP_some, ro_bool, got_int, List.map_cons, List.map_nil, List.getD_cons_zero, List.getD_cons_succ, List.getElem?_cons_zero, List.getElem?_cons_succ, List.length_cons, List.length_nil, List.replicate_succ, List.replicate_zero, List.cons_append, List.nil_append, Bool.false_eq_true, Option.map_some, ↓reduceIte, Nat.zero_add, List.length_append]
      refine plan_idx _ (fun b => [.undef, .ptr st.length 0, .undef, bif b 20 then .sl (W.bsv N) N.length (.own 1) else .sl (W.bsv B) B.length (.own 1), .undef, .ptr (st.length + 1) 0, .int .i64 1] ++ List.replicate 20 .undef ++ [m.pv, .int .i64 m.ps.length, .int .i64 i, .bool true, adr m.pv (i * 7), .agg p.cells, .ptr (st.length + 1) 1, .bool true] ++ [bif b 0 then .sl (W.bsv B) B.length .ro else .undef, bif b 1 then .ptr (st.length + 1) 0 else .undef, bif b 2 then .str p.path else .undef, bif b 19 then .sl (W.bsv T) T.length (.own 1) else bif b 3 then .sl (W.bsv T) T.length (.excl 1) else .undef, bif b 4 then .int .i64 1 else .undef, bif b 5 then .ptr (st.length + 1) 2 else .undef, bif b 6 then .int .i64 p.size else .undef, bif b 7 then .ptr (st.length + 1) 4 else .undef, bif b 8 then .int .i64 p.dig else .undef, bif b 9 then .ptr (st.length + 1) 5 else .undef, bif b 10 then .ptr (st.length + 1) 5 else .undef, bif b 11 then .int .i64 p.cl else .undef, bif b 12 then .ptr (st.length + 1) 5 else .undef, bif b 13 then .ptr (st.length + 1) 6 else .undef, bif b 14 then .int .i64 p.cr else .undef, bif b 15 then .ptr (st.length + 1) 3 else .undef, bif b 16 then p.cv else .undef, bif b 17 then .int .i64 p.ch.length else .undef, bif b 19 then .sl [.int .i64 1, .int .i64 p.size, .int .i64 p.dig, .int .i64 p.cl, .int .i64 p.cr, .int .i64 p.ch.length] 6 (.own 1) else bif b 18 then .sl [.int .i64 1, .int .i64 p.size, .int .i64 p.dig, .int .i64 p.cl, .int .i64 p.cr, .int .i64 p.ch.length] 6 (.excl 1) else .undef, bif b 20 then .undef else bif b 19 then .sl (W.bsv N) N.length (.excl 1) else .undef] ++ List.replicate 7 .undef) (st ++ [.cells [.int .i64 m.au, .int .i64 m.ve, .int .i64 m.pr, .int .i64 m.ep, .int .i64 m.ne, .int .i64 m.se, .int .i64 m.sh, m.pv], .cells p.cells]) (by decide) rfl (by decide) ?_ ?_ (b0 := fun _ => false) (fun _ => rfl) rfl
      · intro b hb
        have hb0 : (∀ j, j < 21 → b j = true) := hb
        have e0 := hb0 0 (by omega)
        have e1 := hb0 1 (by omega)
        have e2 := hb0 2 (by omega)
        have e3 := hb0 3 (by omega)
        have e4 := hb0 4 (by omega)
        have e5 := hb0 5 (by omega)
        have e6 := hb0 6 (by omega)
        have e7 := hb0 7 (by omega)
        have e8 := hb0 8 (by omega)
        have e9 := hb0 9 (by omega)
        have e10 := hb0 10 (by omega)
        have e11 := hb0 11 (by omega)
        have e12 := hb0 12 (by omega)
        have e13 := hb0 13 (by omega)
        have e14 := hb0 14 (by omega)
        have e15 := hb0 15 (by omega)
        have e16 := hb0 16 (by omega)
        have e17 := hb0 17 (by omega)
        have e18 := hb0 18 (by omega)
        have e19 := hb0 19 (by omega)
        have e20 := hb0 20 (by omega)
        simp (maxSteps := 2000000) (disch := first | omega | simp only [List.length_append, List.length_cons, List.length_nil, List.length_map] <;> omega) only [e0, e1, e2, e3, e4, e5, e6, e7, e8, e9, e10, e11, e12, e13, e14, e15, e16, e17, e18, e19, e20, cond_true, pget3, w1, w2, w3, getA, List.set_cons_zero, List.set_cons_succ, exc_own, swp_reg, seqK_n, evK_some, appK_eq, srun_cons, stepK_call, sk_mv, sk_fld, sk_load, get_mk, raw_slot, put_some, wb_nil, ev_mv, ev_fld, ev_ldP, ldP_some, ro_own, got_own, pubs, pubsFrom, List.map_cons, List.map_nil, List.getD_cons_zero, List.getD_cons_succ, List.getElem?_cons_zero, List.getElem?_cons_succ, List.replicate_succ, List.replicate_zero, List.cons_append, List.nil_append, Bool.false_eq_true, Option.map_some, ↓reduceIte, Nat.zero_add]
        refine callK_intro (x36 (rdv_ro (l := N) rfl) (RowAt.mono oa.1 _) hNl (by omega)) ?_
        rcases list_nil_or p.ch with hc0 | hc0
        · rw [hc0]
          simp (maxSteps := 2000000) (disch := first | omega | simp only [List.length_append, List.length_cons, List.length_nil, List.length_map] <;> omega) only [numsV, List.set_cons_zero, List.set_cons_succ, lpK_n, sk_giveP, ev_giveP, flg_ro, swp_reg, seqK_n, blkK_n, evK_some, appK_eq, appC_eq, srun_nil, srun_cons, sk_mv, sk_bin, get_mk, raw_slot, raw_lit, put_some, wb_nil, ev_mv, bin_add, ro_int, ro_ro, List.map_cons, List.map_nil, List.getD_cons_zero, List.getD_cons_succ, List.length_nil, Bool.false_eq_true, ↓reduceIte, Int.cast_ofNat_Int, wrap_i64]
          refine ⟨_, Forget.cutA (l := [_]) (x := [_]) ?_ (by simp) ?_ o1, ⟨i + 1, .ro, N, by omega, .inr rfl, ?_, rfl⟩, by exact fin⟩
          · repeat first | exact fg_e | refine fg_d ?_ | refine fg_k rfl ?_
          · simp [idOks, idOk, idp, W.bsv, idOks_bs]
          · rw [← hnext, hN, hT0]; simp [pieceB, nsB, hc0]
        · rw [numsV_cons _ _ hc0]
          simp (maxSteps := 2000000) (disch := first | omega | simp only [List.length_append, List.length_cons, List.length_nil, List.length_map] <;> omega) only [List.set_cons_zero, List.set_cons_succ, lpK_n, sk_giveP, ev_giveP, pub_excl2, flg_excl, swp_reg, seqK_n, blkK_n, evK_some, appK_eq, appC_eq, srun_nil, srun_cons, sk_mv, sk_bin, get_mk, raw_slot, raw_lit, put_some, wb_nil, wb_cons, ev_mv, bin_add, ro_int, ro_excl, List.map_cons, List.map_nil, List.getD_cons_zero, List.getD_cons_succ, List.getElem?_cons_zero, ↓reduceIte, wrap_i64]
          refine ⟨_, Forget.cutA (l := [_]) (x := [_]) ?_ (by simp) ?_ o1, ⟨i + 1, .own 1, N ++ nsB p.ch, by omega, .inl rfl, ?_, by rw [List.length_append]⟩, by exact fin⟩
          · repeat first | exact fg_e | refine fg_d ?_ | refine fg_k rfl ?_
          · simp [idOks, idOk, idp, W.bsv, idOks_app, idOks_bs]
          · rw [← hnext, hN, hT0]; simp [pieceB]
      · intro b j hj hc hbj he
        have c0 : b 0 = false → b 20 = false := fun h => by
          cases hx : b 20 with
          | false => rfl
          | true => have := hc 20 (by decide) hx 0 (by simp); rw [h] at this; cases this
        have c3 : b 3 = false → b 19 = false := fun h => by
          cases hx : b 19 with
          | false => rfl
          | true => have := hc 19 (by decide) hx 3 (by simp); rw [h] at this; cases this
        have c18 : b 18 = false → b 19 = false := fun h => by
          cases hx : b 19 with
          | false => rfl
          | true => have := hc 19 (by decide) hx 18 (by simp); rw [h] at this; cases this
        have c19 : b 19 = false → b 20 = false := fun h => by
          cases hx : b 20 with
          | false => rfl
          | true => have := hc 20 (by decide) hx 19 (by simp); rw [h] at this; cases this
        have hj' : j < 21 := hj
        have hjj : j = 0 ∨ j = 1 ∨ j = 2 ∨ j = 3 ∨ j = 4 ∨ j = 5 ∨ j = 6 ∨ j = 7 ∨ j = 8 ∨ j = 9 ∨ j = 10 ∨ j = 11 ∨ j = 12 ∨ j = 13 ∨ j = 14 ∨ j = 15 ∨ j = 16 ∨ j = 17 ∨ j = 18 ∨ j = 19 ∨ j = 20 := by omega
        clear hj'
        rcases hjj with rfl | rfl | rfl | rfl | rfl | rfl | rfl | rfl | rfl | rfl | rfl | rfl | rfl | rfl | rfl | rfl | rfl | rfl | rfl | rfl | rfl
        all_goals
          have d0 := c0
          have d3 := c3
          have d18 := c18
          have d19 := c19
          simp only [List.getElem_cons_succ, List.getElem_cons_zero, List.mem_cons, List.not_mem_nil, or_false, forall_eq_or_imp, forall_eq, false_imp_iff, implies_true] at he ⊢
          try simp only [hbj, forall_const] at d0
          try simp only [hbj, forall_const] at d3
          try simp only [hbj, forall_const] at d18
          try simp only [hbj, forall_const] at d19
          first
            | (simp (maxSteps := 2000000) (disch := first | omega | simp only [List.length_append, List.length_cons, List.length_nil, List.length_map] <;> omega) only [he, hbj, cond_true, cond_false, Bool.or_true, Bool.or_false, Nat.reduceBEq, pget2, pget3, pget4, pget0, pget5, pget6, w1, w5, cv_int, cell_int, getA, Nat.add_zero, List.set_cons_zero, List.set_cons_succ, sk_giveP, ev_giveP, pub_excl2, flg_excl, exc_int, exc_str, exc_ro, exc_excl, evK_some, appK_eq, stepK_call, sk_mv, sk_fld, sk_load, sk_lenL, sk_bsl, get_mk, raw_slot, put_some, wb_nil, wb_cons, ev_mv, ev_fld, ev_bsl, ev_ldP, ldP_some, ro_int, ro_str, ro_excl, got_excl, got_roo, got_int, got_str, pubs, pubsFrom, List.map_cons, List.map_nil, List.getD_cons_zero, List.getD_cons_succ, List.getElem?_cons_zero, List.getElem?_cons_succ, List.length_cons, List.length_nil, List.replicate_succ, List.replicate_zero, List.cons_append, List.nil_append, Nat.reduceAdd, Nat.reduceLeDiff, Nat.reduceLT, and_true, Bool.false_eq_true, Option.map_some, ↓reduceIte, List.all_cons, List.all_nil, Bool.and_self, List.zip_cons_cons, List.zip_nil_right, rep, fillV, wrCells, List.flatten_cons, List.flatten_nil, List.append_nil, decide_true, Nat.mul_one, Nat.zero_add, beq_self_eq_true, Nat.le_refl]; done)
            | (simp (maxSteps := 2000000) (disch := first | omega | simp only [List.length_append, List.length_cons, List.length_nil, List.length_map] <;> omega) only [hbj, cond_true, cond_false, Bool.or_true, Bool.or_false, Nat.reduceBEq, List.set_cons_zero, List.set_cons_succ, evK_some, appK_eq, stepK_call, sk_mv, sk_bsl, get_mk, raw_slot, put_some, wb_nil, ev_mv, ev_bsl, pubs, pubsFrom, List.map_cons, List.map_nil, List.getD_cons_zero, List.getD_cons_succ, List.length_cons, List.length_nil, List.replicate_succ, List.replicate_zero, List.cons_append, List.nil_append, Nat.reduceAdd, Nat.reduceLeDiff, Nat.reduceLT, true_and, and_true, ↓reduceIte, List.all_cons, List.all_nil, Bool.and_self, List.zip_cons_cons, List.zip_nil_right, rep, fillV, List.flatten_cons, List.flatten_nil, List.append_nil, decide_true, Nat.mul_one, Nat.zero_add, beq_self_eq_true]; done)
            | (simp (maxSteps := 2000000) (disch := first | omega | simp only [List.length_append, List.length_cons, List.length_nil, List.length_map] <;> omega) only [hbj, d0, cond_true, cond_false, Bool.or_true, Bool.or_false, Nat.reduceBEq, List.set_cons_zero, List.set_cons_succ, evK_some, appK_eq, stepK_call, sk_mv, sk_bsl, get_mk, raw_slot, put_some, wb_nil, ev_mv, ev_bsl, ro_own, pubs, pubsFrom, List.map_cons, List.map_nil, List.getD_cons_zero, List.getD_cons_succ, List.length_cons, List.length_nil, List.replicate_succ, List.replicate_zero, List.cons_append, List.nil_append, Nat.reduceAdd, Nat.reduceLeDiff, Nat.reduceLT, true_and, and_true, ↓reduceIte, List.all_cons, List.all_nil, Bool.and_self, List.zip_cons_cons, List.zip_nil_right, rep, fillV, List.flatten_cons, List.flatten_nil, List.append_nil, decide_true, Nat.mul_one, Nat.zero_add, beq_self_eq_true]; done)
            | (simp (maxSteps := 2000000) (disch := first | omega | simp only [List.length_append, List.length_cons, List.length_nil, List.length_map] <;> omega) only [he, hbj, d3, cond_true, cond_false, Bool.or_true, Bool.or_false, Nat.reduceBEq, cv_int, cell_int, List.set_cons_zero, List.set_cons_succ, pub_excl2, exc_int, exc_str, exc_ro, exc_excl, evK_some, appK_eq, stepK_call, sk_bsl, get_mk, raw_slot, put_some, wb_nil, ev_bsl, got_excl, got_roo, got_int, got_str, pubs, pubsFrom, List.map_cons, List.map_nil, List.getD_cons_zero, List.getD_cons_succ, List.length_cons, List.length_nil, List.replicate_succ, List.replicate_zero, List.cons_append, List.nil_append, Nat.reduceAdd, Nat.reduceLeDiff, Nat.reduceLT, and_true, Bool.false_eq_true, Option.map_some, ↓reduceIte, List.all_cons, List.all_nil, Bool.and_self, List.zip_cons_cons, List.zip_nil_right, rep, fillV, wrCells, List.flatten_cons, List.flatten_nil, List.append_nil, decide_true, Nat.mul_one, Nat.zero_add, beq_self_eq_true, Nat.le_refl]; done)
            | (simp (maxSteps := 2000000) (disch := first | omega | simp only [List.length_append, List.length_cons, List.length_nil, List.length_map] <;> omega) only [he, hbj, d3, cond_true, cond_false, Bool.or_true, Bool.or_false, Nat.reduceBEq, cv_int, cell_int, List.set_cons_zero, List.set_cons_succ, pub_excl2, exc_int, exc_str, exc_ro, exc_excl, evK_some, appK_eq, stepK_call, sk_bsl, get_mk, raw_slot, put_some, wb_nil, ev_bsl, got_excl, got_roo, got_int, got_str, pubs, pubsFrom, List.map_cons, List.map_nil, List.getD_cons_zero, List.getD_cons_succ, List.length_cons, List.length_nil, List.replicate_succ, List.replicate_zero, List.cons_append, List.nil_append, Nat.reduceAdd, Nat.reduceLeDiff, Nat.reduceLT, and_true, Bool.false_eq_true, Option.map_some, ↓reduceIte, List.all_cons, List.all_nil, Bool.and_self, List.zip_cons_cons, List.zip_nil_right, rep, fillV, wrCells, List.flatten_cons, List.flatten_nil, List.append_nil, decide_true, Nat.mul_one, Nat.zero_add, beq_self_eq_true, Nat.le_refl]; refine callK_intro (k37 _) ?_; simp (maxSteps := 2000000) (disch := first | omega | simp only [List.length_append, List.length_cons, List.length_nil, List.length_map] <;> omega) only [List.set_cons_zero, List.set_cons_succ, appC_eq, put_some, wb_nil]; done)
            | (simp (maxSteps := 2000000) (disch := first | omega | simp only [List.length_append, List.length_cons, List.length_nil, List.length_map] <;> omega) only [he, hbj, d18, cond_true, cond_false, Bool.or_true, Bool.or_false, Nat.reduceBEq, cv_int, cell_int, List.set_cons_zero, List.set_cons_succ, pub_excl2, exc_int, exc_excl, evK_some, appK_eq, stepK_call, sk_bsl, get_mk, raw_slot, put_some, wb_nil, ev_bsl, got_excl, got_int, pubs, pubsFrom, List.map_cons, List.map_nil, List.getD_cons_zero, List.getD_cons_succ, List.length_cons, List.length_nil, List.replicate_succ, List.replicate_zero, List.cons_append, List.nil_append, Nat.reduceAdd, Nat.reduceLeDiff, Nat.reduceLT, and_true, Bool.false_eq_true, Option.map_some, ↓reduceIte, List.all_cons, List.all_nil, Bool.and_self, List.zip_cons_cons, List.zip_nil_right, rep, fillV, wrCells, List.flatten_cons, List.flatten_nil, List.append_nil, decide_true, Nat.mul_one, Nat.zero_add, beq_self_eq_true, Nat.le_refl]; done)
            | (simp (maxSteps := 2000000) (disch := first | omega | simp only [List.length_append, List.length_cons, List.length_nil, List.length_map] <;> omega) only [he, hbj, d19, cond_true, cond_false, Bool.or_true, Bool.or_false, Nat.reduceBEq, pub_excl2, exc_excl, stepK_call, get_mk, raw_slot, got_excl, pubs, pubsFrom, List.map_cons, List.map_nil, List.getD_cons_zero, List.getD_cons_succ, List.replicate_succ, List.replicate_zero, List.cons_append, List.nil_append, ↓reduceIte, Nat.zero_add, beq_self_eq_true]; refine callK_intro (k36 _) ?_; simp (maxSteps := 2000000) (disch := first | omega | simp only [List.length_append, List.length_cons, List.length_nil, List.length_map] <;> omega) only [List.set_cons_zero, List.set_cons_succ, appC_eq, put_some, wb_nil, wb_cons, List.getElem?_cons_zero, List.getElem?_cons_succ]; done)
            | (simp (maxSteps := 2000000) (disch := first | omega | simp only [List.length_append, List.length_cons, List.length_nil, List.length_map] <;> omega) only [he, hbj, cond_true, cond_false, Bool.or_true, Bool.or_false, Bool.true_or, Bool.false_or, Nat.reduceBEq, q1, q2, q3, q4, q5, q6, q7, qv, nbI, cv_agg, cv_int, cv_str, cv_bool, cv_fn, cv_nilS, cv_nilF, cv_nilP, cv_ptr, cv_sl, cv_slo, cell_fn, eq_pair, eq_four, cell_str, cell_int, cell_bool, cell_nilS, getA0, getA, setA0, setA, ev_ldA, List.drop_succ_cons, List.drop_zero, List.take_succ_cons, List.take_zero, List.append_assoc, Nat.add_zero, List.set_cons_zero, List.set_cons_succ, lpK_n, lpK_e, lpK_r, lpK_g, Int.toNat_natCast, sk_bslO, ev_bslO, sk_storeO, ev_storeO_x, ev_storeO_nil, stepK_callp, app_own, sk_giveP, ev_giveP, pub_excl2, pub_own, sk_loadG, sk_ment, sk_mest, ev_ment, ev_mest, ev_loadG, sk_mkM, sk_lkp, sk_upd, ev_mkM, ev_mkM1, apM_some, ev_lkp, ev_lkpN, ev_upd, ev_lenMp, ev_lenMn, stepK_callv, callvK_fn, ev_idxP, sk_giveO, sk_cpy, sk_slcP, ro_slo, ro1_slo, ro2_slo, got_slo, flg_slo, exc_slo, ev_giveO_x, ev_giveO_nil, ev_giveO_slo, ev_giveO_ro, ev_lenO, ev_eqNs3, ev_idxO, apO_some, ev_b2O, ev_appO, slcO_hi, slcO_lo, slcO_both, slcP_all, ev_cpS, slcO_clone, flg_undef, flg_bool, flg_int, flg_str, flg_nilS, flg_nilP, flg_ptr, flg_agg, flg_tup, flg_nilF, flg_fn, flg_nilM, flg_mp, flg_elv, flg_ro, flg_full, flg_own, flg_excl, exc_undef, exc_bool, exc_int, exc_str, exc_nilS, exc_nilP, exc_ptr, exc_agg, exc_tup, exc_nilF, exc_fn, exc_nilM, exc_mp, exc_elv, exc_ro, exc_full, exc_own, exc_excl, sk_idxB, idxB_ro, idxB_full, idxB_own, idxB_excl, idxB_O, grd_s, swp_seq, swp_reg, swp_skip, swp_ret, swp_exit, swp_label, swp_goto, swp_block, swp_scope, swp_both, swp_cond, seqK_n, seqK_e, seqK_r, seqK_g, blkK_n, blkK_e, blkK_r, blkK_g, noG_n, noG_e, noG_r, scpK_n, scpK_e, scpK_r, scpK_g, condK_t, condK_f, evK_some, appK_eq, appC_eq, grd_t, srun_nil, srun_cons, stepK_call, stepK_grd, fin_ret, fin_n, fin_nil, fin_two, fin_three, swpF_eq, sk_mv, sk_take, sk_give, sk_pick, sk_bin, sk_eqB, sk_eqN, sk_eqA, sk_un, sk_cvI, sk_b2s, sk_s2b, sk_idS, sk_nilc, sk_fld, sk_fldV, sk_idxS, sk_idxV, sk_idxA, sk_idxP, sk_load, sk_store, sk_lenS, sk_lenL, sk_lenA, sk_lenM, sk_min, sk_max, sk_slcS, sk_slcL, sk_mkS, sk_bsl, sk_bld, sk_box, sk_alloc, sk_ext, sk_app, sk_mfn, get_mk, raw_slot, raw_lit, put_some, put_none, wb_nil, wb_cons, ev_mv, ev_take, ev_give, ev_pick, ev_eqB, ev_not, ev_cvI, ev_nilc, ev_fld, ev_lenS, ev_lenL, ev_lenN, ev_min, ev_max, ev_eqNs1, ev_eqNs2, ev_eqNp1, ev_eqNp2, ev_ext, bin_add, bin_sub, bin_mul, bin_and, bin_or, bin_xor, bin_eql, bin_neq, bin_lss, bin_leq, bin_gtr, bin_geq, bin_eqlS, bin_neqS, bin_lssS, unr_succ, unrK_n, unrK_e, unrK_r, unrK_g, ev_b2sN, bsl_nil, ev_bsl, ev_bld, ev_box, ev_alloc, ev_ldP, ldP_some, stP_some, setOb_setOb, setOb_len, ev_loadE, slcS_hi, slcS_lo, slcS_both, slcL_hi_ro, slcL_lo_ro, slcL_both_ro, idxA_ro, slcL_hi_full, slcL_lo_full, slcL_both_full, idxA_full, slcL_hi_own, slcL_lo_own, slcL_both_own, idxA_own, slcL_nil_hi, slcL_nil_both, app_excl_str, ro_undef, ro_int, ro_bool, ro_str, ro_nilS, ro_nilP, ro_nilF, ro_nilM, ro_ptr, ro_mp, ro_fn, ro_elv, ro_ro, ro_full, ro_own, ro_excl, ro_agg, ro_tup, ro1_int, ro1_str, ro1_bool, ro1_nilS, ro2_nilS, ro1_nilP, ro2_nilP, ro1_nilF, ro2_nilF, ro1_nilM, ro2_nilM, ro1_ptr, ro2_ptr, ro1_mp, ro2_mp, ro1_fn, ro2_fn, ro1_ro, ro2_ro, ro1_full, ro2_full, ro1_own, ro2_own, ro2_int, ro2_str, ro2_bool, got_excl, got_own, got_roo, got_full, got_int, got_bool, got_str, got_nilS, got_nilP, got_ptr, got_fn, got_mp, got_undef, got_agg, pub_excl, pubs, pubsFrom, List.map_cons, List.map_nil, List.getD_cons_zero, List.getD_cons_succ, List.getElem?_cons_zero, List.getElem?_cons_succ, List.length_cons, List.length_nil, List.replicate_succ, List.replicate_zero, List.cons_append, List.nil_append, Nat.reduceAdd, Nat.reduceSub, Nat.reduceMul, Nat.reduceLeDiff, Nat.reduceLT, Nat.reduceEqDiff, if_true, if_false, true_and, and_true, Bool.false_eq_true, Option.map_some, Option.bind_some, ↓reduceIte, List.all_cons, List.all_nil, Bool.and_true, Bool.and_self, List.zip_cons_cons, List.zip_nil_left, List.zip_nil_right, rep, fillV, wrCells, List.flatten_cons, List.flatten_nil, List.append_nil, decide_true, decide_false, Nat.zero_mul, Nat.mul_one, Nat.zero_add, reduceCtorEq, not_false_eq_true, forall_const, implies_true, Bool.not_true, Bool.not_false, beq_self_eq_true, bne_self_eq_false, Int.reduceBEq, Int.reduceBNe, st_bool, st_int, st_str, st_nilS, st_nilP, st_ptr, st_nilF, st_fn, st_nilM, st_mp, st_ro, st_full, setOb_same, ge_iff_le, gt_iff_lt, Int.cast_ofNat_Int, or_step, or_zero, Int.zero_mul, Int.reduceLE, Int.reduceLT, Int.reduceMul, Int.reduceSub, Int.reduceAdd, Int.reduceToNat, Int.reduceNeg, Int.reducePow, Nat.reducePow, IntKind.bits, wrap_i64, wrap_u8, bin_shr, bin_shl, Nat.min_def, ne_eq, Nat.one_ne_zero, List.length_append, Nat.le_refl, not_true_eq_false, app_excl, app_nil])
    · simp (maxSteps := 2000000) (disch := first | omega | simp only [List.length_append, List.length_cons, List.length_nil, List.length_map] <;> omega) only [hd, z1, z2, sP, pget1, hh, getA, List.append_assoc, List.set_cons_zero, List.set_cons_succ, exc_int, sk_idxB, swp_seq, swp_reg, swp_skip, swp_block, swp_cond, seqK_n, condK_t, evK_some, appK_eq, srun_nil, srun_cons, sk_take, sk_bin, sk_fld, sk_load, sk_store, sk_alloc, get_mk, raw_slot, raw_lit, put_some, put_none, wb_nil, ev_take, ev_fld, bin_lss, ev_alloc, ev_ldP, ldP_some, ro_bool, got_int, List.map_cons, List.map_nil, List.getD_cons_zero, List.getD_cons_succ, List.getElem?_cons_zero, List.getElem?_cons_succ, List.length_cons, List.length_nil, List.replicate_succ, List.replicate_zero, List.cons_append, List.nil_append, Bool.false_eq_true, Option.map_some, ↓reduceIte, Nat.zero_add, List.length_append]
      refine plan_idx _ (fun b => [.undef, .ptr st.length 0, .undef, bif b 20 then .sl (W.bsv N) N.length (.own 1) else .sl (W.bsv B) B.length .ro, .undef, .ptr (st.length + 1) 0, .int .i64 1] ++ List.replicate 20 .undef ++ [m.pv, .int .i64 m.ps.length, .int .i64 i, .bool true, adr m.pv (i * 7), .agg p.cells, .ptr (st.length + 1) 1, .bool true] ++ [bif b 0 then .sl (W.bsv B) B.length .ro else .undef, bif b 1 then .ptr (st.length + 1) 0 else .undef, bif b 2 then .str p.path else .undef, bif b 19 then .sl (W.bsv T) T.length (.own 1) else bif b 3 then .sl (W.bsv T) T.length (.excl 1) else .undef, bif b 4 then .int .i64 1 else .undef, bif b 5 then .ptr (st.length + 1) 2 else .undef, bif b 6 then .int .i64 p.size else .undef, bif b 7 then .ptr (st.length + 1) 4 else .undef, bif b 8 then .int .i64 p.dig else .undef, bif b 9 then .ptr (st.length + 1) 5 else .undef, bif b 10 then .ptr (st.length + 1) 5 else .undef, bif b 11 then .int .i64 p.cl else .undef, bif b 12 then .ptr (st.length + 1) 5 else .undef, bif b 13 then .ptr (st.length + 1) 6 else .undef, bif b 14 then .int .i64 p.cr else .undef, bif b 15 then .ptr (st.length + 1) 3 else .undef, bif b 16 then p.cv else .undef, bif b 17 then .int .i64 p.ch.length else .undef, bif b 19 then .sl [.int .i64 1, .int .i64 p.size, .int .i64 p.dig, .int .i64 p.cl, .int .i64 p.cr, .int .i64 p.ch.length] 6 (.own 1) else bif b 18 then .sl [.int .i64 1, .int .i64 p.size, .int .i64 p.dig, .int .i64 p.cl, .int .i64 p.cr, .int .i64 p.ch.length] 6 (.excl 1) else .undef, bif b 20 then .undef else bif b 19 then .sl (W.bsv N) N.length (.excl 1) else .undef] ++ List.replicate 7 .undef) (st ++ [.cells [.int .i64 m.au, .int .i64 m.ve, .int .i64 m.pr, .int .i64 m.ep, .int .i64 m.ne, .int .i64 m.se, .int .i64 m.sh, m.pv], .cells p.cells]) (by decide) rfl (by decide) ?_ ?_ (b0 := fun _ => false) (fun _ => rfl) rfl
      · intro b hb
        have hb0 : (∀ j, j < 21 → b j = true) := hb
        have e0 := hb0 0 (by omega)
        have e1 := hb0 1 (by omega)
        have e2 := hb0 2 (by omega)
        have e3 := hb0 3 (by omega)
        have e4 := hb0 4 (by omega)
        have e5 := hb0 5 (by omega)
        have e6 := hb0 6 (by omega)
        have e7 := hb0 7 (by omega)
        have e8 := hb0 8 (by omega)
        have e9 := hb0 9 (by omega)
        have e10 := hb0 10 (by omega)
        have e11 := hb0 11 (by omega)
        have e12 := hb0 12 (by omega)
        have e13 := hb0 13 (by omega)
        have e14 := hb0 14 (by omega)
        have e15 := hb0 15 (by omega)
        have e16 := hb0 16 (by omega)
        have e17 := hb0 17 (by omega)
        have e18 := hb0 18 (by omega)
        have e19 := hb0 19 (by omega)
        have e20 := hb0 20 (by omega)
        simp (maxSteps := 2000000) (disch := first | omega | simp only [List.length_append, List.length_cons, List.length_nil, List.length_map] <;> omega) only [e0, e1, e2, e3, e4, e5, e6, e7, e8, e9, e10, e11, e12, e13, e14, e15, e16, e17, e18, e19, e20, cond_true, pget3, w1, w2, w3, getA, List.set_cons_zero, List.set_cons_succ, exc_own, swp_reg, seqK_n, evK_some, appK_eq, srun_cons, stepK_call, sk_mv, sk_fld, sk_load, get_mk, raw_slot, put_some, wb_nil, ev_mv, ev_fld, ev_ldP, ldP_some, ro_own, got_own, pubs, pubsFrom, List.map_cons, List.map_nil, List.getD_cons_zero, List.getD_cons_succ, List.getElem?_cons_zero, List.getElem?_cons_succ, List.replicate_succ, List.replicate_zero, List.cons_append, List.nil_append, Bool.false_eq_true, Option.map_some, ↓reduceIte, Nat.zero_add]
        refine callK_intro (x36 (rdv_ro (l := N) rfl) (RowAt.mono oa.1 _) hNl (by omega)) ?_
        rcases list_nil_or p.ch with hc0 | hc0
        · rw [hc0]
          simp (maxSteps := 2000000) (disch := first | omega | simp only [List.length_append, List.length_cons, List.length_nil, List.length_map] <;> omega) only [numsV, List.set_cons_zero, List.set_cons_succ, lpK_n, sk_giveP, ev_giveP, flg_ro, swp_reg, seqK_n, blkK_n, evK_some, appK_eq, appC_eq, srun_nil, srun_cons, sk_mv, sk_bin, get_mk, raw_slot, raw_lit, put_some, wb_nil, ev_mv, bin_add, ro_int, ro_ro, List.map_cons, List.map_nil, List.getD_cons_zero, List.getD_cons_succ, List.length_nil, Bool.false_eq_true, ↓reduceIte, Int.cast_ofNat_Int, wrap_i64]
          refine ⟨_, Forget.cutA (l := [_]) (x := [_]) ?_ (by simp) ?_ o1, ⟨i + 1, .ro, N, by omega, .inr rfl, ?_, rfl⟩, by exact fin⟩
          · repeat first | exact fg_e | refine fg_d ?_ | refine fg_k rfl ?_
          · simp [idOks, idOk, idp, W.bsv, idOks_bs]
          · rw [← hnext, hN, hT0]; simp [pieceB, nsB, hc0]
        · rw [numsV_cons _ _ hc0]
          simp (maxSteps := 2000000) (disch := first | omega | simp only [List.length_append, List.length_cons, List.length_nil, List.length_map] <;> omega) only [List.set_cons_zero, List.set_cons_succ, lpK_n, sk_giveP, ev_giveP, pub_excl2, flg_excl, swp_reg, seqK_n, blkK_n, evK_some, appK_eq, appC_eq, srun_nil, srun_cons, sk_mv, sk_bin, get_mk, raw_slot, raw_lit, put_some, wb_nil, wb_cons, ev_mv, bin_add, ro_int, ro_excl, List.map_cons, List.map_nil, List.getD_cons_zero, List.getD_cons_succ, List.getElem?_cons_zero, ↓reduceIte, wrap_i64]
          refine ⟨_, Forget.cutA (l := [_]) (x := [_]) ?_ (by simp) ?_ o1, ⟨i + 1, .own 1, N ++ nsB p.ch, by omega, .inl rfl, ?_, by rw [List.length_append]⟩, by exact fin⟩
          · repeat first | exact fg_e | refine fg_d ?_ | refine fg_k rfl ?_
          · simp [idOks, idOk, idp, W.bsv, idOks_app, idOks_bs]
          · rw [← hnext, hN, hT0]; simp [pieceB]
      · intro b j hj hc hbj he
        have c0 : b 0 = false → b 20 = false := fun h => by
          cases hx : b 20 with
          | false => rfl
          | true => have := hc 20 (by decide) hx 0 (by simp); rw [h] at this; cases this
        have c3 : b 3 = false → b 19 = false := fun h => by
          cases hx : b 19 with
          | false => rfl
          | true => have := hc 19 (by decide) hx 3 (by simp); rw [h] at this; cases this
        have c18 : b 18 = false → b 19 = false := fun h => by
          cases hx : b 19 with
          | false => rfl
          | true => have := hc 19 (by decide) hx 18 (by simp); rw [h] at this; cases this
        have c19 : b 19 = false → b 20 = false := fun h => by
          cases hx : b 20 with
          | false => rfl
          | true => have := hc 20 (by decide) hx 19 (by simp); rw [h] at this; cases this
        have hj' : j < 21 := hj
        have hjj : j = 0 ∨ j = 1 ∨ j = 2 ∨ j = 3 ∨ j = 4 ∨ j = 5 ∨ j = 6 ∨ j = 7 ∨ j = 8 ∨ j = 9 ∨ j = 10 ∨ j = 11 ∨ j = 12 ∨ j = 13 ∨ j = 14 ∨ j = 15 ∨ j = 16 ∨ j = 17 ∨ j = 18 ∨ j = 19 ∨ j = 20 := by omega
        clear hj'
        rcases hjj with rfl | rfl | rfl | rfl | rfl | rfl | rfl | rfl | rfl | rfl | rfl | rfl | rfl | rfl | rfl | rfl | rfl | rfl | rfl | rfl | rfl
        all_goals
          have d0 := c0
          have d3 := c3
          have d18 := c18
          have d19 := c19
          simp only [List.getElem_cons_succ, List.getElem_cons_zero, List.mem_cons, List.not_mem_nil, or_false, forall_eq_or_imp, forall_eq, false_imp_iff, implies_true] at he ⊢
          try simp only [hbj, forall_const] at d0
          try simp only [hbj, forall_const] at d3
          try simp only [hbj, forall_const] at d18
          try simp only [hbj, forall_const] at d19
          first
            | (simp (maxSteps := 2000000) (disch := first | omega | simp only [List.length_append, List.length_cons, List.length_nil, List.length_map] <;> omega) only [he, hbj, cond_true, cond_false, Bool.or_true, Bool.or_false, Nat.reduceBEq, pget2, pget3, pget4, pget0, pget5, pget6, w1, w5, cv_int, cell_int, getA, Nat.add_zero, List.set_cons_zero, List.set_cons_succ, sk_giveP, ev_giveP, pub_excl2, flg_excl, exc_int, exc_str, exc_ro, exc_excl, evK_some, appK_eq, stepK_call, sk_mv, sk_fld, sk_load, sk_lenL, sk_bsl, get_mk, raw_slot, put_some, wb_nil, wb_cons, ev_mv, ev_fld, ev_bsl, ev_ldP, ldP_some, ro_int, ro_str, ro_excl, got_excl, got_roo, got_int, got_str, pubs, pubsFrom, List.map_cons, List.map_nil, List.getD_cons_zero, List.getD_cons_succ, List.getElem?_cons_zero, List.getElem?_cons_succ, List.length_cons, List.length_nil, List.replicate_succ, List.replicate_zero, List.cons_append, List.nil_append, Nat.reduceAdd, Nat.reduceLeDiff, Nat.reduceLT, and_true, Bool.false_eq_true, Option.map_some, ↓reduceIte, List.all_cons, List.all_nil, Bool.and_self, List.zip_cons_cons, List.zip_nil_right, rep, fillV, wrCells, List.flatten_cons, List.flatten_nil, List.append_nil, decide_true, Nat.mul_one, Nat.zero_add, beq_self_eq_true, Nat.le_refl]; done)
            | (simp (maxSteps := 2000000) (disch := first | omega | simp only [List.length_append, List.length_cons, List.length_nil, List.length_map] <;> omega) only [hbj, cond_true, cond_false, Bool.or_true, Bool.or_false, Nat.reduceBEq, List.set_cons_zero, List.set_cons_succ, evK_some, appK_eq, stepK_call, sk_mv, sk_bsl, get_mk, raw_slot, put_some, wb_nil, ev_mv, ev_bsl, pubs, pubsFrom, List.map_cons, List.map_nil, List.getD_cons_zero, List.getD_cons_succ, List.length_cons, List.length_nil, List.replicate_succ, List.replicate_zero, List.cons_append, List.nil_append, Nat.reduceAdd, Nat.reduceLeDiff, Nat.reduceLT, true_and, and_true, ↓reduceIte, List.all_cons, List.all_nil, Bool.and_self, List.zip_cons_cons, List.zip_nil_right, rep, fillV, List.flatten_cons, List.flatten_nil, List.append_nil, decide_true, Nat.mul_one, Nat.zero_add, beq_self_eq_true]; done)
            | (simp (maxSteps := 2000000) (disch := first | omega | simp only [List.length_append, List.length_cons, List.length_nil, List.length_map] <;> omega) only [hbj, d0, cond_true, cond_false, Bool.or_true, Bool.or_false, Nat.reduceBEq, List.set_cons_zero, List.set_cons_succ, evK_some, appK_eq, stepK_call, sk_mv, sk_bsl, get_mk, raw_slot, put_some, wb_nil, ev_mv, ev_bsl, ro_ro, pubs, pubsFrom, List.map_cons, List.map_nil, List.getD_cons_zero, List.getD_cons_succ, List.length_cons, List.length_nil, List.replicate_succ, List.replicate_zero, List.cons_append, List.nil_append, Nat.reduceAdd, Nat.reduceLeDiff, Nat.reduceLT, true_and, and_true, ↓reduceIte, List.all_cons, List.all_nil, Bool.and_self, List.zip_cons_cons, List.zip_nil_right, rep, fillV, List.flatten_cons, List.flatten_nil, List.append_nil, decide_true, Nat.mul_one, Nat.zero_add, beq_self_eq_true]; done)
            | (simp (maxSteps := 2000000) (disch := first | omega | simp only [List.length_append, List.length_cons, List.length_nil, List.length_map] <;> omega) only [he, hbj, d3, cond_true, cond_false, Bool.or_true, Bool.or_false, Nat.reduceBEq, cv_int, cell_int, List.set_cons_zero, List.set_cons_succ, pub_excl2, exc_int, exc_str, exc_ro, exc_excl, evK_some, appK_eq, stepK_call, sk_bsl, get_mk, raw_slot, put_some, wb_nil, ev_bsl, got_excl, got_roo, got_int, got_str, pubs, pubsFrom, List.map_cons, List.map_nil, List.getD_cons_zero, List.getD_cons_succ, List.length_cons, List.length_nil, List.replicate_succ, List.replicate_zero, List.cons_append, List.nil_append, Nat.reduceAdd, Nat.reduceLeDiff, Nat.reduceLT, and_true, Bool.false_eq_true, Option.map_some, ↓reduceIte, List.all_cons, List.all_nil, Bool.and_self, List.zip_cons_cons, List.zip_nil_right, rep, fillV, wrCells, List.flatten_cons, List.flatten_nil, List.append_nil, decide_true, Nat.mul_one, Nat.zero_add, beq_self_eq_true, Nat.le_refl]; done)
            | (simp (maxSteps := 2000000) (disch := first | omega | simp only [List.length_append, List.length_cons, List.length_nil, List.length_map] <;> omega) only [he, hbj, d3, cond_true, cond_false, Bool.or_true, Bool.or_false, Nat.reduceBEq, cv_int, cell_int, List.set_cons_zero, List.set_cons_succ, pub_excl2, exc_int, exc_str, exc_ro, exc_excl, evK_some, appK_eq, stepK_call, sk_bsl, get_mk, raw_slot, put_some, wb_nil, ev_bsl, got_excl, got_roo, got_int, got_str, pubs, pubsFrom, List.map_cons, List.map_nil, List.getD_cons_zero, List.getD_cons_succ, List.length_cons, List.length_nil, List.replicate_succ, List.replicate_zero, List.cons_append, List.nil_append, Nat.reduceAdd, Nat.reduceLeDiff, Nat.reduceLT, and_true, Bool.false_eq_true, Option.map_some, ↓reduceIte, List.all_cons, List.all_nil, Bool.and_self, List.zip_cons_cons, List.zip_nil_right, rep, fillV, wrCells, List.flatten_cons, List.flatten_nil, List.append_nil, decide_true, Nat.mul_one, Nat.zero_add, beq_self_eq_true, Nat.le_refl]; refine callK_intro (k37 _) ?_; simp (maxSteps := 2000000) (disch := first | omega | simp only [List.length_append, List.length_cons, List.length_nil, List.length_map] <;> omega) only [List.set_cons_zero, List.set_cons_succ, appC_eq, put_some, wb_nil]; done)
            | (simp (maxSteps := 2000000) (disch := first | omega | simp only [List.length_append, List.length_cons, List.length_nil, List.length_map] <;> omega) only [he, hbj, d18, cond_true, cond_false, Bool.or_true, Bool.or_false, Nat.reduceBEq, cv_int, cell_int, List.set_cons_zero, List.set_cons_succ, pub_excl2, exc_int, exc_excl, evK_some, appK_eq, stepK_call, sk_bsl, get_mk, raw_slot, put_some, wb_nil, ev_bsl, got_excl, got_int, pubs, pubsFrom, List.map_cons, List.map_nil, List.getD_cons_zero, List.getD_cons_succ, List.length_cons, List.length_nil, List.replicate_succ, List.replicate_zero, List.cons_append, List.nil_append, Nat.reduceAdd, Nat.reduceLeDiff, Nat.reduceLT, and_true, Bool.false_eq_true, Option.map_some, ↓reduceIte, List.all_cons, List.all_nil, Bool.and_self, List.zip_cons_cons, List.zip_nil_right, rep, fillV, wrCells, List.flatten_cons, List.flatten_nil, List.append_nil, decide_true, Nat.mul_one, Nat.zero_add, beq_self_eq_true, Nat.le_refl]; done)
            | (simp (maxSteps := 2000000) (disch := first | omega | simp only [List.length_append, List.length_cons, List.length_nil, List.length_map] <;> omega) only [he, hbj, d19, cond_true, cond_false, Bool.or_true, Bool.or_false, Nat.reduceBEq, pub_excl2, exc_excl, stepK_call, get_mk, raw_slot, got_excl, pubs, pubsFrom, List.map_cons, List.map_nil, List.getD_cons_zero, List.getD_cons_succ, List.replicate_succ, List.replicate_zero, List.cons_append, List.nil_append, ↓reduceIte, Nat.zero_add, beq_self_eq_true]; refine callK_intro (k36 _) ?_; simp (maxSteps := 2000000) (disch := first | omega | simp only [List.length_append, List.length_cons, List.length_nil, List.length_map] <;> omega) only [List.set_cons_zero, List.set_cons_succ, appC_eq, put_some, wb_nil, wb_cons, List.getElem?_cons_zero, List.getElem?_cons_succ]; done)
            | (simp (maxSteps := 2000000) (disch := first | omega | simp only [List.length_append, List.length_cons, List.length_nil, List.length_map] <;> omega) only [he, hbj, cond_true, cond_false, Bool.or_true, Bool.or_false, Bool.true_or, Bool.false_or, Nat.reduceBEq, q1, q2, q3, q4, q5, q6, q7, qv, nbI, cv_agg, cv_int, cv_str, cv_bool, cv_fn, cv_nilS, cv_nilF, cv_nilP, cv_ptr, cv_sl, cv_slo, cell_fn, eq_pair, eq_four, cell_str, cell_int, cell_bool, cell_nilS, getA0, getA, setA0, setA, ev_ldA, List.drop_succ_cons, List.drop_zero, List.take_succ_cons, List.take_zero, List.append_assoc, Nat.add_zero, List.set_cons_zero, List.set_cons_succ, lpK_n, lpK_e, lpK_r, lpK_g, Int.toNat_natCast, sk_bslO, ev_bslO, sk_storeO, ev_storeO_x, ev_storeO_nil, stepK_callp, app_own, sk_giveP, ev_giveP, pub_excl2, pub_own, sk_loadG, sk_ment, sk_mest, ev_ment, ev_mest, ev_loadG, sk_mkM, sk_lkp, sk_upd, ev_mkM, ev_mkM1, apM_some, ev_lkp, ev_lkpN, ev_upd, ev_lenMp, ev_lenMn, stepK_callv, callvK_fn, ev_idxP, sk_giveO, sk_cpy, sk_slcP, ro_slo, ro1_slo, ro2_slo, got_slo, flg_slo, exc_slo, ev_giveO_x, ev_giveO_nil, ev_giveO_slo, ev_giveO_ro, ev_lenO, ev_eqNs3, ev_idxO, apO_some, ev_b2O, ev_appO, slcO_hi, slcO_lo, slcO_both, slcP_all, ev_cpS, slcO_clone, flg_undef, flg_bool, flg_int, flg_str, flg_nilS, flg_nilP, flg_ptr, flg_agg, flg_tup, flg_nilF, flg_fn, flg_nilM, flg_mp, flg_elv, flg_ro, flg_full, flg_own, flg_excl, exc_undef, exc_bool, exc_int, exc_str, exc_nilS, exc_nilP, exc_ptr, exc_agg, exc_tup, exc_nilF, exc_fn, exc_nilM, exc_mp, exc_elv, exc_ro, exc_full, exc_own, exc_excl, sk_idxB, idxB_ro, idxB_full, idxB_own, idxB_excl, idxB_O, grd_s, swp_seq, swp_reg, swp_skip, swp_ret, swp_exit, swp_label, swp_goto, swp_block, swp_scope, swp_both, swp_cond, seqK_n, seqK_e, seqK_r, seqK_g, blkK_n, blkK_e, blkK_r, blkK_g, noG_n, noG_e, noG_r, scpK_n, scpK_e, scpK_r, scpK_g, condK_t, condK_f, evK_some, appK_eq, appC_eq, grd_t, srun_nil, srun_cons, stepK_call, stepK_grd, fin_ret, fin_n, fin_nil, fin_two, fin_three, swpF_eq, sk_mv, sk_take, sk_give, sk_pick, sk_bin, sk_eqB, sk_eqN, sk_eqA, sk_un, sk_cvI, sk_b2s, sk_s2b, sk_idS, sk_nilc, sk_fld, sk_fldV, sk_idxS, sk_idxV, sk_idxA, sk_idxP, sk_load, sk_store, sk_lenS, sk_lenL, sk_lenA, sk_lenM, sk_min, sk_max, sk_slcS, sk_slcL, sk_mkS, sk_bsl, sk_bld, sk_box, sk_alloc, sk_ext, sk_app, sk_mfn, get_mk, raw_slot, raw_lit, put_some, put_none, wb_nil, wb_cons, ev_mv, ev_take, ev_give, ev_pick, ev_eqB, ev_not, ev_cvI, ev_nilc, ev_fld, ev_lenS, ev_lenL, ev_lenN, ev_min, ev_max, ev_eqNs1, ev_eqNs2, ev_eqNp1, ev_eqNp2, ev_ext, bin_add, bin_sub, bin_mul, bin_and, bin_or, bin_xor, bin_eql, bin_neq, bin_lss, bin_leq, bin_gtr, bin_geq, bin_eqlS, bin_neqS, bin_lssS, unr_succ, unrK_n, unrK_e, unrK_r, unrK_g, ev_b2sN, bsl_nil, ev_bsl, ev_bld, ev_box, ev_alloc, ev_ldP, ldP_some, stP_some, setOb_setOb, setOb_len, ev_loadE, slcS_hi, slcS_lo, slcS_both, slcL_hi_ro, slcL_lo_ro, slcL_both_ro, idxA_ro, slcL_hi_full, slcL_lo_full, slcL_both_full, idxA_full, slcL_hi_own, slcL_lo_own, slcL_both_own, idxA_own, slcL_nil_hi, slcL_nil_both, app_excl_str, ro_undef, ro_int, ro_bool, ro_str, ro_nilS, ro_nilP, ro_nilF, ro_nilM, ro_ptr, ro_mp, ro_fn, ro_elv, ro_ro, ro_full, ro_own, ro_excl, ro_agg, ro_tup, ro1_int, ro1_str, ro1_bool, ro1_nilS, ro2_nilS, ro1_nilP, ro2_nilP, ro1_nilF, ro2_nilF, ro1_nilM, ro2_nilM, ro1_ptr, ro2_ptr, ro1_mp, ro2_mp, ro1_fn, ro2_fn, ro1_ro, ro2_ro, ro1_full, ro2_full, ro1_own, ro2_own, ro2_int, ro2_str, ro2_bool, got_excl, got_own, got_roo, got_full, got_int, got_bool, got_str, got_nilS, got_nilP, got_ptr, got_fn, got_mp, got_undef, got_agg, pub_excl, pubs, pubsFrom, List.map_cons, List.map_nil, List.getD_cons_zero, List.getD_cons_succ, List.getElem?_cons_zero, List.getElem?_cons_succ, List.length_cons, List.length_nil, List.replicate_succ, List.replicate_zero, List.cons_append, List.nil_append, Nat.reduceAdd, Nat.reduceSub, Nat.reduceMul, Nat.reduceLeDiff, Nat.reduceLT, Nat.reduceEqDiff, if_true, if_false, true_and, and_true, Bool.false_eq_true, Option.map_some, Option.bind_some, ↓reduceIte, List.all_cons, List.all_nil, Bool.and_true, Bool.and_self, List.zip_cons_cons, List.zip_nil_left, List.zip_nil_right, rep, fillV, wrCells, List.flatten_cons, List.flatten_nil, List.append_nil, decide_true, decide_false, Nat.zero_mul, Nat.mul_one, Nat.zero_add, reduceCtorEq, not_false_eq_true, forall_const, implies_true, Bool.not_true, Bool.not_false, beq_self_eq_true, bne_self_eq_false, Int.reduceBEq, Int.reduceBNe, st_bool, st_int, st_str, st_nilS, st_nilP, st_ptr, st_nilF, st_fn, st_nilM, st_mp, st_ro, st_full, setOb_same, ge_iff_le, gt_iff_lt, Int.cast_ofNat_Int, or_step, or_zero, Int.zero_mul, Int.reduceLE, Int.reduceLT, Int.reduceMul, Int.reduceSub, Int.reduceAdd, Int.reduceToNat, Int.reduceNeg, Int.reducePow, Nat.reducePow, IntKind.bits, wrap_i64, wrap_u8, bin_shr, bin_shl, Nat.min_def, ne_eq, Nat.one_ne_zero, List.length_append, Nat.le_refl, not_true_eq_false, app_excl, app_nil])
  · skip
    have hT : T = B ++ W.strB p.path := hT0
    have k37 : ∀ s, O206 37 [.sl (W.bsv B) B.length .ro, .str p.path] s (.sl (W.bsv T) T.length (.excl 1)) s := by
      intro s
      have := x37 (st := s) (rdv_ro (l := B) rfl) (s := p.path) (by omega)
      rw [← hT, ← List.length_append, ← hT] at this
      exact this
    have k36 : ∀ s, O206 36 [.sl (W.bsv T) T.length .ro, .sl [.int .i64 0, .int .i64 p.size, .int .i64 p.dig, .int .i64 p.cl, .int .i64 p.cr, .int .i64 p.ch.length] 6 .ro] s (.sl (W.bsv N) N.length (.excl 1)) s := by
      intro s
      have := x36 (st := s) (rdv_ro (l := T) rfl) (RowI.mk (l := [0, p.size, p.dig, p.cl, p.cr, (p.ch.length : Int)]) (n := 6) (.inl rfl) rfl) hTl (by simp)
      rw [numsV_cons _ _ (by simp), ← List.length_append] at this
      have hN' : T ++ nsB [0, p.size, p.dig, p.cl, p.cr, (p.ch.length : Int)] = N := by rw [hN]; simp [sixI, hasI, hh]
      rw [hN'] at this
      exact this
    rcases hf with rfl | rfl
    · simp (maxSteps := 2000000) (disch := first | omega | simp only [List.length_append, List.length_cons, List.length_nil, List.length_map] <;> omega) only [hd, z1, z2, sP, pget1, hh, getA, List.append_assoc, List.set_cons_zero, List.set_cons_succ, exc_int, sk_idxB, swp_seq, swp_reg, swp_skip, swp_block, swp_cond, seqK_n, condK_t, condK_f, evK_some, appK_eq, srun_nil, srun_cons, sk_take, sk_bin, sk_fld, sk_load, sk_store, sk_alloc, get_mk, raw_slot, raw_lit, put_some, put_none, wb_nil, ev_take, ev_fld, bin_lss, ev_alloc, ev_ldP, ldP_some, ro_bool, got_int, List.map_cons, List.map_nil, List.getD_cons_zero, List.getD_cons_succ, List.getElem?_cons_zero, List.getElem?_cons_succ, List.length_cons, List.length_nil, List.replicate_succ, List.replicate_zero, List.cons_append, List.nil_append, Bool.false_eq_true, Option.map_some, ↓reduceIte, Nat.zero_add, List.length_append]
      refine plan_idx _ (fun b => [.undef, .ptr st.length 0, .undef, bif b 20 then .sl (W.bsv N) N.length (.own 1) else .sl (W.bsv B) B.length (.own 1), .undef, .ptr (st.length + 1) 0, .int .i64 0] ++ List.replicate 20 .undef ++ [m.pv, .int .i64 m.ps.length, .int .i64 i, .bool true, adr m.pv (i * 7), .agg p.cells, .ptr (st.length + 1) 1, .bool false] ++ [bif b 0 then .sl (W.bsv B) B.length .ro else .undef, bif b 1 then .ptr (st.length + 1) 0 else .undef, bif b 2 then .str p.path else .undef, bif b 19 then .sl (W.bsv T) T.length (.own 1) else bif b 3 then .sl (W.bsv T) T.length (.excl 1) else .undef, bif b 4 then .int .i64 0 else .undef, bif b 5 then .ptr (st.length + 1) 2 else .undef, bif b 6 then .int .i64 p.size else .undef, bif b 7 then .ptr (st.length + 1) 4 else .undef, bif b 8 then .int .i64 p.dig else .undef, bif b 9 then .ptr (st.length + 1) 5 else .undef, bif b 10 then .ptr (st.length + 1) 5 else .undef, bif b 11 then .int .i64 p.cl else .undef, bif b 12 then .ptr (st.length + 1) 5 else .undef, bif b 13 then .ptr (st.length + 1) 6 else .undef, bif b 14 then .int .i64 p.cr else .undef, bif b 15 then .ptr (st.length + 1) 3 else .undef, bif b 16 then p.cv else .undef, bif b 17 then .int .i64 p.ch.length else .undef, bif b 19 then .sl [.int .i64 0, .int .i64 p.size, .int .i64 p.dig, .int .i64 p.cl, .int .i64 p.cr, .int .i64 p.ch.length] 6 (.own 1) else bif b 18 then .sl [.int .i64 0, .int .i64 p.size, .int .i64 p.dig, .int .i64 p.cl, .int .i64 p.cr, .int .i64 p.ch.length] 6 (.excl 1) else .undef, bif b 20 then .undef else bif b 19 then .sl (W.bsv N) N.length (.excl 1) else .undef] ++ List.replicate 7 .undef) (st ++ [.cells [.int .i64 m.au, .int .i64 m.ve, .int .i64 m.pr, .int .i64 m.ep, .int .i64 m.ne, .int .i64 m.se, .int .i64 m.sh, m.pv], .cells p.cells]) (by decide) rfl (by decide) ?_ ?_ (b0 := fun _ => false) (fun _ => rfl) rfl
      · intro b hb
        have hb0 : (∀ j, j < 21 → b j = true) := hb
        have e0 := hb0 0 (by omega)
        have e1 := hb0 1 (by omega)
        have e2 := hb0 2 (by omega)
        have e3 := hb0 3 (by omega)
        have e4 := hb0 4 (by omega)
        have e5 := hb0 5 (by omega)
        have e6 := hb0 6 (by omega)
        have e7 := hb0 7 (by omega)
        have e8 := hb0 8 (by omega)
        have e9 := hb0 9 (by omega)
        have e10 := hb0 10 (by omega)
        have e11 := hb0 11 (by omega)
        have e12 := hb0 12 (by omega)
        have e13 := hb0 13 (by omega)
        have e14 := hb0 14 (by omega)
        have e15 := hb0 15 (by omega)
        have e16 := hb0 16 (by omega)
        have e17 := hb0 17 (by omega)
        have e18 := hb0 18 (by omega)
        have e19 := hb0 19 (by omega)
        have e20 := hb0 20 (by omega)
        simp (maxSteps := 2000000) (disch := first | omega | simp only [List.length_append, List.length_cons, List.length_nil, List.length_map] <;> omega) only [e0, e1, e2, e3, e4, e5, e6, e7, e8, e9, e10, e11, e12, e13, e14, e15, e16, e17, e18, e19, e20, cond_true, pget3, w1, w2, w3, getA, List.set_cons_zero, List.set_cons_succ, exc_own, swp_reg, seqK_n, evK_some, appK_eq, srun_cons, stepK_call, sk_mv, sk_fld, sk_load, get_mk, raw_slot, put_some, wb_nil, ev_mv, ev_fld, ev_ldP, ldP_some, ro_own, got_own, pubs, pubsFrom, List.map_cons, List.map_nil, List.getD_cons_zero, List.getD_cons_succ, List.getElem?_cons_zero, List.getElem?_cons_succ, List.replicate_succ, List.replicate_zero, List.cons_append, List.nil_append, Bool.false_eq_true, Option.map_some, ↓reduceIte, Nat.zero_add]
        refine callK_intro (x36 (rdv_ro (l := N) rfl) (RowAt.mono oa.1 _) hNl (by omega)) ?_
        rcases list_nil_or p.ch with hc0 | hc0
        · rw [hc0]
          simp (maxSteps := 2000000) (disch := first | omega | simp only [List.length_append, List.length_cons, List.length_nil, List.length_map] <;> omega) only [numsV, List.set_cons_zero, List.set_cons_succ, lpK_n, sk_giveP, ev_giveP, flg_ro, swp_reg, seqK_n, blkK_n, evK_some, appK_eq, appC_eq, srun_nil, srun_cons, sk_mv, sk_bin, get_mk, raw_slot, raw_lit, put_some, wb_nil, ev_mv, bin_add, ro_int, ro_ro, List.map_cons, List.map_nil, List.getD_cons_zero, List.getD_cons_succ, List.length_nil, Bool.false_eq_true, ↓reduceIte, Int.cast_ofNat_Int, wrap_i64]
          refine ⟨_, Forget.cutA (l := [_]) (x := [_]) ?_ (by simp) ?_ o1, ⟨i + 1, .ro, N, by omega, .inr rfl, ?_, rfl⟩, by exact fin⟩
          · repeat first | exact fg_e | refine fg_d ?_ | refine fg_k rfl ?_
          · simp [idOks, idOk, idp, W.bsv, idOks_bs]
          · rw [← hnext, hN, hT0]; simp [pieceB, nsB, hc0]
        · rw [numsV_cons _ _ hc0]
          simp (maxSteps := 2000000) (disch := first | omega | simp only [List.length_append, List.length_cons, List.length_nil, List.length_map] <;> omega) only [List.set_cons_zero, List.set_cons_succ, lpK_n, sk_giveP, ev_giveP, pub_excl2, flg_excl, swp_reg, seqK_n, blkK_n, evK_some, appK_eq, appC_eq, srun_nil, srun_cons, sk_mv, sk_bin, get_mk, raw_slot, raw_lit, put_some, wb_nil, wb_cons, ev_mv, bin_add, ro_int, ro_excl, List.map_cons, List.map_nil, List.getD_cons_zero, List.getD_cons_succ, List.getElem?_cons_zero, ↓reduceIte, wrap_i64]
          refine ⟨_, Forget.cutA (l := [_]) (x := [_]) ?_ (by simp) ?_ o1, ⟨i + 1, .own 1, N ++ nsB p.ch, by omega, .inl rfl, ?_, by rw [List.length_append]⟩, by exact fin⟩
          · repeat first | exact fg_e | refine fg_d ?_ | refine fg_k rfl ?_
          · simp [idOks, idOk, idp, W.bsv, idOks_app, idOks_bs]
          · rw [← hnext, hN, hT0]; simp [pieceB]
      · intro b j hj hc hbj he
        have c0 : b 0 = false → b 20 = false := fun h => by
          cases hx : b 20 with
          | false => rfl
          | true => have := hc 20 (by decide) hx 0 (by simp); rw [h] at this; cases this
        have c3 : b 3 = false → b 19 = false := fun h => by
          cases hx : b 19 with
          | false => rfl
          | true => have := hc 19 (by decide) hx 3 (by simp); rw [h] at this; cases this
        have c18 : b 18 = false → b 19 = false := fun h => by
          cases hx : b 19 with
          | false => rfl
          | true => have := hc 19 (by decide) hx 18 (by simp); rw [h] at this; cases this
        have c19 : b 19 = false → b 20 = false := fun h => by
          cases hx : b 20 with
          | false => rfl
          | true => have := hc 20 (by decide) hx 19 (by simp); rw [h] at this; cases this
        have hj' : j < 21 := hj
        have hjj : j = 0 ∨ j = 1 ∨ j = 2 ∨ j = 3 ∨ j = 4 ∨ j = 5 ∨ j = 6 ∨ j = 7 ∨ j = 8 ∨ j = 9 ∨ j = 10 ∨ j = 11 ∨ j = 12 ∨ j = 13 ∨ j = 14 ∨ j = 15 ∨ j = 16 ∨ j = 17 ∨ j = 18 ∨ j = 19 ∨ j = 20 := by omega
        clear hj'
        rcases hjj with rfl | rfl | rfl | rfl | rfl | rfl | rfl | rfl | rfl | rfl | rfl | rfl | rfl | rfl | rfl | rfl | rfl | rfl | rfl | rfl | rfl
        all_goals
          have d0 := c0
          have d3 := c3
          have d18 := c18
          have d19 := c19
          simp only [List.getElem_cons_succ, List.getElem_cons_zero, List.mem_cons, List.not_mem_nil, or_false, forall_eq_or_imp, forall_eq, false_imp_iff, implies_true] at he ⊢
          try simp only [hbj, forall_const] at d0
          try simp only [hbj, forall_const] at d3
          try simp only [hbj, forall_const] at d18
          try simp only [hbj, forall_const] at d19
          first
            | (simp (maxSteps := 2000000) (disch := first | omega | simp only [List.length_append, List.length_cons, List.length_nil, List.length_map] <;> omega) only [he, hbj, cond_true, cond_false, Bool.or_true, Bool.or_false, Nat.reduceBEq, pget2, pget3, pget4, pget0, pget5, pget6, w1, w5, cv_int, cell_int, getA, Nat.add_zero, List.set_cons_zero, List.set_cons_succ, sk_giveP, ev_giveP, pub_excl2, flg_excl, exc_int, exc_str, exc_ro, exc_excl, evK_some, appK_eq, stepK_call, sk_mv, sk_fld, sk_load, sk_lenL, sk_bsl, get_mk, raw_slot, put_some, wb_nil, wb_cons, ev_mv, ev_fld, ev_bsl, ev_ldP, ldP_some, ro_int, ro_str, ro_excl, got_excl, got_roo, got_int, got_str, pubs, pubsFrom, List.map_cons, List.map_nil, List.getD_cons_zero, List.getD_cons_succ, List.getElem?_cons_zero, List.getElem?_cons_succ, List.length_cons, List.length_nil, List.replicate_succ, List.replicate_zero, List.cons_append, List.nil_append, Nat.reduceAdd, Nat.reduceLeDiff, Nat.reduceLT, and_true, Bool.false_eq_true, Option.map_some, ↓reduceIte, List.all_cons, List.all_nil, Bool.and_self, List.zip_cons_cons, List.zip_nil_right, rep, fillV, wrCells, List.flatten_cons, List.flatten_nil, List.append_nil, decide_true, Nat.mul_one, Nat.zero_add, beq_self_eq_true, Nat.le_refl]; done)
            | (simp (maxSteps := 2000000) (disch := first | omega | simp only [List.length_append, List.length_cons, List.length_nil, List.length_map] <;> omega) only [hbj, cond_true, cond_false, Bool.or_true, Bool.or_false, Nat.reduceBEq, List.set_cons_zero, List.set_cons_succ, evK_some, appK_eq, stepK_call, sk_mv, sk_bsl, get_mk, raw_slot, put_some, wb_nil, ev_mv, ev_bsl, pubs, pubsFrom, List.map_cons, List.map_nil, List.getD_cons_zero, List.getD_cons_succ, List.length_cons, List.length_nil, List.replicate_succ, List.replicate_zero, List.cons_append, List.nil_append, Nat.reduceAdd, Nat.reduceLeDiff, Nat.reduceLT, true_and, and_true, ↓reduceIte, List.all_cons, List.all_nil, Bool.and_self, List.zip_cons_cons, List.zip_nil_right, rep, fillV, List.flatten_cons, List.flatten_nil, List.append_nil, decide_true, Nat.mul_one, Nat.zero_add, beq_self_eq_true]; done)
            | (simp (maxSteps := 2000000) (disch := first | omega | simp only [List.length_append, List.length_cons, List.length_nil, List.length_map] <;> omega) only [hbj, d0, cond_true, cond_false, Bool.or_true, Bool.or_false, Nat.reduceBEq, List.set_cons_zero, List.set_cons_succ, evK_some, appK_eq, stepK_call, sk_mv, sk_bsl, get_mk, raw_slot, put_some, wb_nil, ev_mv, ev_bsl, ro_own, pubs, pubsFrom, List.map_cons, List.map_nil, List.getD_cons_zero, List.getD_cons_succ, List.length_cons, List.length_nil, List.replicate_succ, List.replicate_zero, List.cons_append, List.nil_append, Nat.reduceAdd, Nat.reduceLeDiff, Nat.reduceLT, true_and, and_true, ↓reduceIte, List.all_cons, List.all_nil, Bool.and_self, List.zip_cons_cons, List.zip_nil_right, rep, fillV, List.flatten_cons, List.flatten_nil, List.append_nil, decide_true, Nat.mul_one, Nat.zero_add, beq_self_eq_true]; done)
            | (simp (maxSteps := 2000000) (disch := first | omega | simp only [List.length_append, List.length_cons, List.length_nil, List.length_map] <;> omega) only [he, hbj, d3, cond_true, cond_false, Bool.or_true, Bool.or_false, Nat.reduceBEq, cv_int, cell_int, List.set_cons_zero, List.set_cons_succ, pub_excl2, exc_int, exc_str, exc_ro, exc_excl, evK_some, appK_eq, stepK_call, sk_bsl, get_mk, raw_slot, put_some, wb_nil, ev_bsl, got_excl, got_roo, got_int, got_str, pubs, pubsFrom, List.map_cons, List.map_nil, List.getD_cons_zero, List.getD_cons_succ, List.length_cons, List.length_nil, List.replicate_succ, List.replicate_zero, List.cons_append, List.nil_append, Nat.reduceAdd, Nat.reduceLeDiff, Nat.reduceLT, and_true, Bool.false_eq_true, Option.map_some, ↓reduceIte, List.all_cons, List.all_nil, Bool.and_self, List.zip_cons_cons, List.zip_nil_right, rep, fillV, wrCells, List.flatten_cons, List.flatten_nil, List.append_nil, decide_true, Nat.mul_one, Nat.zero_add, beq_self_eq_true, Nat.le_refl]; done)
            | (simp (maxSteps := 2000000) (disch := first | omega | simp only [List.length_append, List.length_cons, List.length_nil, List.length_map] <;> omega) only [he, hbj, d3, cond_true, cond_false, Bool.or_true, Bool.or_false, Nat.reduceBEq, cv_int, cell_int, List.set_cons_zero, List.set_cons_succ, pub_excl2, exc_int, exc_str, exc_ro, exc_excl, evK_some, appK_eq, stepK_call, sk_bsl, get_mk, raw_slot, put_some, wb_nil, ev_bsl, got_excl, got_roo, got_int, got_str, pubs, pubsFrom, List.map_cons, List.map_nil, List.getD_cons_zero, List.getD_cons_succ, List.length_cons, List.length_nil, List.replicate_succ, List.replicate_zero, List.cons_append, List.nil_append, Nat.reduceAdd, Nat.reduceLeDiff, Nat.reduceLT, and_true, Bool.false_eq_true, Option.map_some, ↓reduceIte, List.all_cons, List.all_nil, Bool.and_self, List.zip_cons_cons, List.zip_nil_right, rep, fillV, wrCells, List.flatten_cons, List.flatten_nil, List.append_nil, decide_true, Nat.mul_one, Nat.zero_add, beq_self_eq_true, Nat.le_refl]; refine callK_intro (k37 _) ?_; simp (maxSteps := 2000000) (disch := first | omega | simp only [List.length_append, List.length_cons, List.length_nil, List.length_map] <;> omega) only [List.set_cons_zero, List.set_cons_succ, appC_eq, put_some, wb_nil]; done)
            | (simp (maxSteps := 2000000) (disch := first | omega | simp only [List.length_append, List.length_cons, List.length_nil, List.length_map] <;> omega) only [he, hbj, d18, cond_true, cond_false, Bool.or_true, Bool.or_false, Nat.reduceBEq, cv_int, cell_int, List.set_cons_zero, List.set_cons_succ, pub_excl2, exc_int, exc_excl, evK_some, appK_eq, stepK_call, sk_bsl, get_mk, raw_slot, put_some, wb_nil, ev_bsl, got_excl, got_int, pubs, pubsFrom, List.map_cons, List.map_nil, List.getD_cons_zero, List.getD_cons_succ, List.length_cons, List.length_nil, List.replicate_succ, List.replicate_zero, List.cons_append, List.nil_append, Nat.reduceAdd, Nat.reduceLeDiff, Nat.reduceLT, and_true, Bool.false_eq_true, Option.map_some, ↓reduceIte, List.all_cons, List.all_nil, Bool.and_self, List.zip_cons_cons, List.zip_nil_right, rep, fillV, wrCells, List.flatten_cons, List.flatten_nil, List.append_nil, decide_true, Nat.mul_one, Nat.zero_add, beq_self_eq_true, Nat.le_refl]; done)
            | (simp (maxSteps := 2000000) (disch := first | omega | simp only [List.length_append, List.length_cons, List.length_nil, List.length_map] <;> omega) only [he, hbj, d19, cond_true, cond_false, Bool.or_true, Bool.or_false, Nat.reduceBEq, pub_excl2, exc_excl, stepK_call, get_mk, raw_slot, got_excl, pubs, pubsFrom, List.map_cons, List.map_nil, List.getD_cons_zero, List.getD_cons_succ, List.replicate_succ, List.replicate_zero, List.cons_append, List.nil_append, ↓reduceIte, Nat.zero_add, beq_self_eq_true]; refine callK_intro (k36 _) ?_; simp (maxSteps := 2000000) (disch := first | omega | simp only [List.length_append, List.length_cons, List.length_nil, List.length_map] <;> omega) only [List.set_cons_zero, List.set_cons_succ, appC_eq, put_some, wb_nil, wb_cons, List.getElem?_cons_zero, List.getElem?_cons_succ]; done)
            | (simp (maxSteps := 2000000) (disch := first | omega | simp only [List.length_append, List.length_cons, List.length_nil, List.length_map] <;> omega) only [he, hbj, cond_true, cond_false, Bool.or_true, Bool.or_false, Bool.true_or, Bool.false_or, Nat.reduceBEq, q1, q2, q3, q4, q5, q6, q7, qv, nbI, cv_agg, cv_int, cv_str, cv_bool, cv_fn, cv_nilS, cv_nilF, cv_nilP, cv_ptr, cv_sl, cv_slo, cell_fn, eq_pair, eq_four, cell_str, cell_int, cell_bool, cell_nilS, getA0, getA, setA0, setA, ev_ldA, List.drop_succ_cons, List.drop_zero, List.take_succ_cons, List.take_zero, List.append_assoc, Nat.add_zero, List.set_cons_zero, List.set_cons_succ, lpK_n, lpK_e, lpK_r, lpK_g, Int.toNat_natCast, sk_bslO, ev_bslO, sk_storeO, ev_storeO_x, ev_storeO_nil, stepK_callp, app_own, sk_giveP, ev_giveP, pub_excl2, pub_own, sk_loadG, sk_ment, sk_mest, ev_ment, ev_mest, ev_loadG, sk_mkM, sk_lkp, sk_upd, ev_mkM, ev_mkM1, apM_some, ev_lkp, ev_lkpN, ev_upd, ev_lenMp, ev_lenMn, stepK_callv, callvK_fn, ev_idxP, sk_giveO, sk_cpy, sk_slcP, ro_slo, ro1_slo, ro2_slo, got_slo, flg_slo, exc_slo, ev_giveO_x, ev_giveO_nil, ev_giveO_slo, ev_giveO_ro, ev_lenO, ev_eqNs3, ev_idxO, apO_some, ev_b2O, ev_appO, slcO_hi, slcO_lo, slcO_both, slcP_all, ev_cpS, slcO_clone, flg_undef, flg_bool, flg_int, flg_str, flg_nilS, flg_nilP, flg_ptr, flg_agg, flg_tup, flg_nilF, flg_fn, flg_nilM, flg_mp, flg_elv, flg_ro, flg_full, flg_own, flg_excl, exc_undef, exc_bool, exc_int, exc_str, exc_nilS, exc_nilP, exc_ptr, exc_agg, exc_tup, exc_nilF, exc_fn, exc_nilM, exc_mp, exc_elv, exc_ro, exc_full, exc_own, exc_excl, sk_idxB, idxB_ro, idxB_full, idxB_own, idxB_excl, idxB_O, grd_s, swp_seq, swp_reg, swp_skip, swp_ret, swp_exit, swp_label, swp_goto, swp_block, swp_scope, swp_both, swp_cond, seqK_n, seqK_e, seqK_r, seqK_g, blkK_n, blkK_e, blkK_r, blkK_g, noG_n, noG_e, noG_r, scpK_n, scpK_e, scpK_r, scpK_g, condK_t, condK_f, evK_some, appK_eq, appC_eq, grd_t, srun_nil, srun_cons, stepK_call, stepK_grd, fin_ret, fin_n, fin_nil, fin_two, fin_three, swpF_eq, sk_mv, sk_take, sk_give, sk_pick, sk_bin, sk_eqB, sk_eqN, sk_eqA, sk_un, sk_cvI, sk_b2s, sk_s2b, sk_idS, sk_nilc, sk_fld, sk_fldV, sk_idxS, sk_idxV, sk_idxA, sk_idxP, sk_load, sk_store, sk_lenS, sk_lenL, sk_lenA, sk_lenM, sk_min, sk_max, sk_slcS, sk_slcL, sk_mkS, sk_bsl, sk_bld, sk_box, sk_alloc, sk_ext, sk_app, sk_mfn, get_mk, raw_slot, raw_lit, put_some, put_none, wb_nil, wb_cons, ev_mv, ev_take, ev_give, ev_pick, ev_eqB, ev_not, ev_cvI, ev_nilc, ev_fld, ev_lenS, ev_lenL, ev_lenN, ev_min, ev_max, ev_eqNs1, ev_eqNs2, ev_eqNp1, ev_eqNp2, ev_ext, bin_add, bin_sub, bin_mul, bin_and, bin_or, bin_xor, bin_eql, bin_neq, bin_lss, bin_leq, bin_gtr, bin_geq, bin_eqlS, bin_neqS, bin_lssS, unr_succ, unrK_n, unrK_e, unrK_r, unrK_g, ev_b2sN, bsl_nil, ev_bsl, ev_bld, ev_box, ev_alloc, ev_ldP, ldP_some, stP_some, setOb_setOb, setOb_len, ev_loadE, slcS_hi, slcS_lo, slcS_both, slcL_hi_ro, slcL_lo_ro, slcL_both_ro, idxA_ro, slcL_hi_full, slcL_lo_full, slcL_both_full, idxA_full, slcL_hi_own, slcL_lo_own, slcL_both_own, idxA_own, slcL_nil_hi, slcL_nil_both, app_excl_str, ro_undef, ro_int, ro_bool, ro_str, ro_nilS, ro_nilP, ro_nilF, ro_nilM, ro_ptr, ro_mp, ro_fn, ro_elv, ro_ro, ro_full, ro_own, ro_excl, ro_agg, ro_tup, ro1_int, ro1_str, ro1_bool, ro1_nilS, ro2_nilS, ro1_nilP, ro2_nilP, ro1_nilF, ro2_nilF, ro1_nilM, ro2_nilM, ro1_ptr, ro2_ptr, ro1_mp, ro2_mp, ro1_fn, ro2_fn, ro1_ro, ro2_ro, ro1_full, ro2_full, ro1_own, ro2_own, ro2_int, ro2_str, ro2_bool, got_excl, got_own, got_roo, got_full, got_int, got_bool, got_str, got_nilS, got_nilP, got_ptr, got_fn, got_mp, got_undef, got_agg, pub_excl, pubs, pubsFrom, List.map_cons, List.map_nil, List.getD_cons_zero, List.getD_cons_succ, List.getElem?_cons_zero, List.getElem?_cons_succ, List.length_cons, List.length_nil, List.replicate_succ, List.replicate_zero, List.cons_append, List.nil_append, Nat.reduceAdd, Nat.reduceSub, Nat.reduceMul, Nat.reduceLeDiff, Nat.reduceLT, Nat.reduceEqDiff, if_true, if_false, true_and, and_true, Bool.false_eq_true, Option.map_some, Option.bind_some, ↓reduceIte, List.all_cons, List.all_nil, Bool.and_true, Bool.and_self, List.zip_cons_cons, List.zip_nil_left, List.zip_nil_right, rep, fillV, wrCells, List.flatten_cons, List.flatten_nil, List.append_nil, decide_true, decide_false, Nat.zero_mul, Nat.mul_one, Nat.zero_add, reduceCtorEq, not_false_eq_true, forall_const, implies_true, Bool.not_true, Bool.not_false, beq_self_eq_true, bne_self_eq_false, Int.reduceBEq, Int.reduceBNe, st_bool, st_int, st_str, st_nilS, st_nilP, st_ptr, st_nilF, st_fn, st_nilM, st_mp, st_ro, st_full, setOb_same, ge_iff_le, gt_iff_lt, Int.cast_ofNat_Int, or_step, or_zero, Int.zero_mul, Int.reduceLE, Int.reduceLT, Int.reduceMul, Int.reduceSub, Int.reduceAdd, Int.reduceToNat, Int.reduceNeg, Int.reducePow, Nat.reducePow, IntKind.bits, wrap_i64, wrap_u8, bin_shr, bin_shl, Nat.min_def, ne_eq, Nat.one_ne_zero, List.length_append, Nat.le_refl, not_true_eq_false, app_excl, app_nil])
    · simp (maxSteps := 2000000) (disch := first | omega | simp only [List.length_append, List.length_cons, List.length_nil, List.length_map] <;> omega) only [hd, z1, z2, sP, pget1, hh, getA, List.append_assoc, List.set_cons_zero, List.set_cons_succ, exc_int, sk_idxB, swp_seq, swp_reg, swp_skip, swp_block, swp_cond, seqK_n, condK_t, condK_f, evK_some, appK_eq, srun_nil, srun_cons, sk_take, sk_bin, sk_fld, sk_load, sk_store, sk_alloc, get_mk, raw_slot, raw_lit, put_some, put_none, wb_nil, ev_take, ev_fld, bin_lss, ev_alloc, ev_ldP, ldP_some, ro_bool, got_int, List.map_cons, List.map_nil, List.getD_cons_zero, List.getD_cons_succ, List.getElem?_cons_zero, List.getElem?_cons_succ, List.length_cons, List.length_nil, List.replicate_succ, List.replicate_zero, List.cons_append, List.nil_append, Bool.false_eq_true, Option.map_some, ↓reduceIte, Nat.zero_add, List.length_append]
      refine plan_idx _ (fun b => [.undef, .ptr st.length 0, .undef, bif b 20 then .sl (W.bsv N) N.length (.own 1) else .sl (W.bsv B) B.length .ro, .undef, .ptr (st.length + 1) 0, .int .i64 0] ++ List.replicate 20 .undef ++ [m.pv, .int .i64 m.ps.length, .int .i64 i, .bool true, adr m.pv (i * 7), .agg p.cells, .ptr (st.length + 1) 1, .bool false] ++ [bif b 0 then .sl (W.bsv B) B.length .ro else .undef, bif b 1 then .ptr (st.length + 1) 0 else .undef, bif b 2 then .str p.path else .undef, bif b 19 then .sl (W.bsv T) T.length (.own 1) else bif b 3 then .sl (W.bsv T) T.length (.excl 1) else .undef, bif b 4 then .int .i64 0 else .undef, bif b 5 then .ptr (st.length + 1) 2 else .undef, bif b 6 then .int .i64 p.size else .undef, bif b 7 then .ptr (st.length + 1) 4 else .undef, bif b 8 then .int .i64 p.dig else .undef, bif b 9 then .ptr (st.length + 1) 5 else .undef, bif b 10 then .ptr (st.length + 1) 5 else .undef, bif b 11 then .int .i64 p.cl else .undef, bif b 12 then .ptr (st.length + 1) 5 else .undef, bif b 13 then .ptr (st.length + 1) 6 else .undef, bif b 14 then .int .i64 p.cr else .undef, bif b 15 then .ptr (st.length + 1) 3 else .undef, bif b 16 then p.cv else .undef, bif b 17 then .int .i64 p.ch.length else .undef, bif b 19 then .sl [.int .i64 0, .int .i64 p.size, .int .i64 p.dig, .int .i64 p.cl, .int .i64 p.cr, .int .i64 p.ch.length] 6 (.own 1) else bif b 18 then .sl [.int .i64 0, .int .i64 p.size, .int .i64 p.dig, .int .i64 p.cl, .int .i64 p.cr, .int .i64 p.ch.length] 6 (.excl 1) else .undef, bif b 20 then .undef else bif b 19 then .sl (W.bsv N) N.length (.excl 1) else .undef] ++ List.replicate 7 .undef) (st ++ [.cells [.int .i64 m.au, .int .i64 m.ve, .int .i64 m.pr, .int .i64 m.ep, .int .i64 m.ne, .int .i64 m.se, .int .i64 m.sh, m.pv], .cells p.cells]) (by decide) rfl (by decide) ?_ ?_ (b0 := fun _ => false) (fun _ => rfl) rfl
      · intro b hb
        have hb0 : (∀ j, j < 21 → b j = true) := hb
        have e0 := hb0 0 (by omega)
        have e1 := hb0 1 (by omega)
        have e2 := hb0 2 (by omega)
        have e3 := hb0 3 (by omega)
        have e4 := hb0 4 (by omega)
        have e5 := hb0 5 (by omega)
        have e6 := hb0 6 (by omega)
        have e7 := hb0 7 (by omega)
        have e8 := hb0 8 (by omega)
        have e9 := hb0 9 (by omega)
        have e10 := hb0 10 (by omega)
        have e11 := hb0 11 (by omega)
        have e12 := hb0 12 (by omega)
        have e13 := hb0 13 (by omega)
        have e14 := hb0 14 (by omega)
        have e15 := hb0 15 (by omega)
        have e16 := hb0 16 (by omega)
        have e17 := hb0 17 (by omega)
        have e18 := hb0 18 (by omega)
        have e19 := hb0 19 (by omega)
        have e20 := hb0 20 (by omega)
        simp (maxSteps := 2000000) (disch := first | omega | simp only [List.length_append, List.length_cons, List.length_nil, List.length_map] <;> omega) only [e0, e1, e2, e3, e4, e5, e6, e7, e8, e9, e10, e11, e12, e13, e14, e15, e16, e17, e18, e19, e20, cond_true, pget3, w1, w2, w3, getA, List.set_cons_zero, List.set_cons_succ, exc_own, swp_reg, seqK_n, evK_some, appK_eq, srun_cons, stepK_call, sk_mv, sk_fld, sk_load, get_mk, raw_slot, put_some, wb_nil, ev_mv, ev_fld, ev_ldP, ldP_some, ro_own, got_own, pubs, pubsFrom, List.map_cons, List.map_nil, List.getD_cons_zero, List.getD_cons_succ, List.getElem?_cons_zero, List.getElem?_cons_succ, List.replicate_succ, List.replicate_zero, List.cons_append, List.nil_append, Bool.false_eq_true, Option.map_some, ↓reduceIte, Nat.zero_add]
        refine callK_intro (x36 (rdv_ro (l := N) rfl) (RowAt.mono oa.1 _) hNl (by omega)) ?_
        rcases list_nil_or p.ch with hc0 | hc0
        · rw [hc0]
          simp (maxSteps := 2000000) (disch := first | omega | simp only [List.length_append, List.length_cons, List.length_nil, List.length_map] <;> omega) only [numsV, List.set_cons_zero, List.set_cons_succ, lpK_n, sk_giveP, ev_giveP, flg_ro, swp_reg, seqK_n, blkK_n, evK_some, appK_eq, appC_eq, srun_nil, srun_cons, sk_mv, sk_bin, get_mk, raw_slot, raw_lit, put_some, wb_nil, ev_mv, bin_add, ro_int, ro_ro, List.map_cons, List.map_nil, List.getD_cons_zero, List.getD_cons_succ, List.length_nil, Bool.false_eq_true, ↓reduceIte, Int.cast_ofNat_Int, wrap_i64]
          refine ⟨_, Forget.cutA (l := [_]) (x := [_]) ?_ (by simp) ?_ o1, ⟨i + 1, .ro, N, by omega, .inr rfl, ?_, rfl⟩, by exact fin⟩
          · repeat first | exact fg_e | refine fg_d ?_ | refine fg_k rfl ?_
          · simp [idOks, idOk, idp, W.bsv, idOks_bs]
          · rw [← hnext, hN, hT0]; simp [pieceB, nsB, hc0]
        · rw [numsV_cons _ _ hc0]
          simp (maxSteps := 2000000) (disch := first | omega | simp only [List.length_append, List.length_cons, List.length_nil, List.length_map] <;> omega) only [List.set_cons_zero, List.set_cons_succ, lpK_n, sk_giveP, ev_giveP, pub_excl2, flg_excl, swp_reg, seqK_n, blkK_n, evK_some, appK_eq, appC_eq, srun_nil, srun_cons, sk_mv, sk_bin, get_mk, raw_slot, raw_lit, put_some, wb_nil, wb_cons, ev_mv, bin_add, ro_int, ro_excl, List.map_cons, List.map_nil, List.getD_cons_zero, List.getD_cons_succ, List.getElem?_cons_zero, ↓reduceIte, wrap_i64]
          refine ⟨_, Forget.cutA (l := [_]) (x := [_]) ?_ (by simp) ?_ o1, ⟨i + 1, .own 1, N ++ nsB p.ch, by omega, .inl rfl, ?_, by rw [List.length_append]⟩, by exact fin⟩
          · repeat first | exact fg_e | refine fg_d ?_ | refine fg_k rfl ?_
          · simp [idOks, idOk, idp, W.bsv, idOks_app, idOks_bs]
          · rw [← hnext, hN, hT0]; simp [pieceB]
      · intro b j hj hc hbj he
        have c0 : b 0 = false → b 20 = false := fun h => by
          cases hx : b 20 with
          | false => rfl
          | true => have := hc 20 (by decide) hx 0 (by simp); rw [h] at this; cases this
        have c3 : b 3 = false → b 19 = false := fun h => by
          cases hx : b 19 with
          | false => rfl
          | true => have := hc 19 (by decide) hx 3 (by simp); rw [h] at this; cases this
        have c18 : b 18 = false → b 19 = false := fun h => by
          cases hx : b 19 with
          | false => rfl
          | true => have := hc 19 (by decide) hx 18 (by simp); rw [h] at this; cases this
        have c19 : b 19 = false → b 20 = false := fun h => by
          cases hx : b 20 with
          | false => rfl
          | true => have := hc 20 (by decide) hx 19 (by simp); rw [h] at this; cases this
        have hj' : j < 21 := hj
        have hjj : j = 0 ∨ j = 1 ∨ j = 2 ∨ j = 3 ∨ j = 4 ∨ j = 5 ∨ j = 6 ∨ j = 7 ∨ j = 8 ∨ j = 9 ∨ j = 10 ∨ j = 11 ∨ j = 12 ∨ j = 13 ∨ j = 14 ∨ j = 15 ∨ j = 16 ∨ j = 17 ∨ j = 18 ∨ j = 19 ∨ j = 20 := by omega
        clear hj'
        rcases hjj with rfl | rfl | rfl | rfl | rfl | rfl | rfl | rfl | rfl | rfl | rfl | rfl | rfl | rfl | rfl | rfl | rfl | rfl | rfl | rfl | rfl
        all_goals
          have d0 := c0
          have d3 := c3
          have d18 := c18
          have d19 := c19
          simp only [List.getElem_cons_succ, List.getElem_cons_zero, List.mem_cons, List.not_mem_nil, or_false, forall_eq_or_imp, forall_eq, false_imp_iff, implies_true] at he ⊢
          try simp only [hbj, forall_const] at d0
          try simp only [hbj, forall_const] at d3
          try simp only [hbj, forall_const] at d18
          try simp only [hbj, forall_const] at d19
          first
            | (simp (maxSteps := 2000000) (disch := first | omega | simp only [List.length_append, List.length_cons, List.length_nil, List.length_map] <;> omega) only [he, hbj, cond_true, cond_false, Bool.or_true, Bool.or_false, Nat.reduceBEq, pget2, pget3, pget4, pget0, pget5, pget6, w1, w5, cv_int, cell_int, getA, Nat.add_zero, List.set_cons_zero, List.set_cons_succ, sk_giveP, ev_giveP, pub_excl2, flg_excl, exc_int, exc_str, exc_ro, exc_excl, evK_some, appK_eq, stepK_call, sk_mv, sk_fld, sk_load, sk_lenL, sk_bsl, get_mk, raw_slot, put_some, wb_nil, wb_cons, ev_mv, ev_fld, ev_bsl, ev_ldP, ldP_some, ro_int, ro_str, ro_excl, got_excl, got_roo, got_int, got_str, pubs, pubsFrom, List.map_cons, List.map_nil, List.getD_cons_zero, List.getD_cons_succ, List.getElem?_cons_zero, List.getElem?_cons_succ, List.length_cons, List.length_nil, List.replicate_succ, List.replicate_zero, List.cons_append, List.nil_append, Nat.reduceAdd, Nat.reduceLeDiff, Nat.reduceLT, and_true, Bool.false_eq_true, Option.map_some, ↓reduceIte, List.all_cons, List.all_nil, Bool.and_self, List.zip_cons_cons, List.zip_nil_right, rep, fillV, wrCells, List.flatten_cons, List.flatten_nil, List.append_nil, decide_true, Nat.mul_one, Nat.zero_add, beq_self_eq_true, Nat.le_refl]; done)
            | (simp (maxSteps := 2000000) (disch := first | omega | simp only [List.length_append, List.length_cons, List.length_nil, List.length_map] <;> omega) only [hbj, cond_true, cond_false, Bool.or_true, Bool.or_false, Nat.reduceBEq, List.set_cons_zero, List.set_cons_succ, evK_some, appK_eq, stepK_call, sk_mv, sk_bsl, get_mk, raw_slot, put_some, wb_nil, ev_mv, ev_bsl, pubs, pubsFrom, List.map_cons, List.map_nil, List.getD_cons_zero, List.getD_cons_succ, List.length_cons, List.length_nil, List.replicate_succ, List.replicate_zero, List.cons_append, List.nil_append, Nat.reduceAdd, Nat.reduceLeDiff, Nat.reduceLT, true_and, and_true, ↓reduceIte, List.all_cons, List.all_nil, Bool.and_self, List.zip_cons_cons, List.zip_nil_right, rep, fillV, List.flatten_cons, List.flatten_nil, List.append_nil, decide_true, Nat.mul_one, Nat.zero_add, beq_self_eq_true]; done)
            | (simp (maxSteps := 2000000) (disch := first | omega | simp only [List.length_append, List.length_cons, List.length_nil, List.length_map] <;> omega) only [hbj, d0, cond_true, cond_false, Bool.or_true, Bool.or_false, Nat.reduceBEq, List.set_cons_zero, List.set_cons_succ, evK_some, appK_eq, stepK_call, sk_mv, sk_bsl, get_mk, raw_slot, put_some, wb_nil, ev_mv, ev_bsl, ro_ro, pubs, pubsFrom, List.map_cons, List.map_nil, List.getD_cons_zero, List.getD_cons_succ, List.length_cons, List.length_nil, List.replicate_succ, List.replicate_zero, List.cons_append, List.nil_append, Nat.reduceAdd, Nat.reduceLeDiff, Nat.reduceLT, true_and, and_true, ↓reduceIte, List.all_cons, List.all_nil, Bool.and_self, List.zip_cons_cons, List.zip_nil_right, rep, fillV, List.flatten_cons, List.flatten_nil, List.append_nil, decide_true, Nat.mul_one, Nat.zero_add, beq_self_eq_true]; done)
            | (simp (maxSteps := 2000000) (disch := first | omega | simp only [List.length_append, List.length_cons, List.length_nil, List.length_map] <;> omega) only [he, hbj, d3, cond_true, cond_false, Bool.or_true, Bool.or_false, Nat.reduceBEq, cv_int, cell_int, List.set_cons_zero, List.set_cons_succ, pub_excl2, exc_int, exc_str, exc_ro, exc_excl, evK_some, appK_eq, stepK_call, sk_bsl, get_mk, raw_slot, put_some, wb_nil, ev_bsl, got_excl, got_roo, got_int, got_str, pubs, pubsFrom, List.map_cons, List.map_nil, List.getD_cons_zero, List.getD_cons_succ, List.length_cons, List.length_nil, List.replicate_succ, List.replicate_zero, List.cons_append, List.nil_append, Nat.reduceAdd, Nat.reduceLeDiff, Nat.reduceLT, and_true, Bool.false_eq_true, Option.map_some, ↓reduceIte, List.all_cons, List.all_nil, Bool.and_self, List.zip_cons_cons, List.zip_nil_right, rep, fillV, wrCells, List.flatten_cons, List.flatten_nil, List.append_nil, decide_true, Nat.mul_one, Nat.zero_add, beq_self_eq_true, Nat.le_refl]; done)
            | (simp (maxSteps := 2000000) (disch := first | omega | simp only [List.length_append, List.length_cons, List.length_nil, List.length_map] <;> omega) only [he, hbj, d3, cond_true, cond_false, Bool.or_true, Bool.or_false, Nat.reduceBEq, cv_int, cell_int, List.set_cons_zero, List.set_cons_succ, pub_excl2, exc_int, exc_str, exc_ro, exc_excl, evK_some, appK_eq, stepK_call, sk_bsl, get_mk, raw_slot, put_some, wb_nil, ev_bsl, got_excl, got_roo, got_int, got_str, pubs, pubsFrom, List.map_cons, List.map_nil, List.getD_cons_zero, List.getD_cons_succ, List.length_cons, List.length_nil, List.replicate_succ, List.replicate_zero, List.cons_append, List.nil_append, Nat.reduceAdd, Nat.reduceLeDiff, Nat.reduceLT, and_true, Bool.false_eq_true, Option.map_some, ↓reduceIte, List.all_cons, List.all_nil, Bool.and_self, List.zip_cons_cons, List.zip_nil_right, rep, fillV, wrCells, List.flatten_cons, List.flatten_nil, List.append_nil, decide_true, Nat.mul_one, Nat.zero_add, beq_self_eq_true, Nat.le_refl]; refine callK_intro (k37 _) ?_; simp (maxSteps := 2000000) (disch := first | omega | simp only [List.length_append, List.length_cons, List.length_nil, List.length_map] <;> omega) only [List.set_cons_zero, List.set_cons_succ, appC_eq, put_some, wb_nil]; done)
            | (simp (maxSteps := 2000000) (disch := first | omega | simp only [List.length_append, List.length_cons, List.length_nil, List.length_map] <;> omega) only [he, hbj, d18, cond_true, cond_false, Bool.or_true, Bool.or_false, Nat.reduceBEq, cv_int, cell_int, List.set_cons_zero, List.set_cons_succ, pub_excl2, exc_int, exc_excl, evK_some, appK_eq, stepK_call, sk_bsl, get_mk, raw_slot, put_some, wb_nil, ev_bsl, got_excl, got_int, pubs, pubsFrom, List.map_cons, List.map_nil, List.getD_cons_zero, List.getD_cons_succ, List.length_cons, List.length_nil, List.replicate_succ, List.replicate_zero, List.cons_append, List.nil_append, Nat.reduceAdd, Nat.reduceLeDiff, Nat.reduceLT, and_true, Bool.false_eq_true, Option.map_some, ↓reduceIte, List.all_cons, List.all_nil, Bool.and_self, List.zip_cons_cons, List.zip_nil_right, rep, fillV, wrCells, List.flatten_cons, List.flatten_nil, List.append_nil, decide_true, Nat.mul_one, Nat.zero_add, beq_self_eq_true, Nat.le_refl]; done)
            | (simp (maxSteps := 2000000) (disch := first | omega | simp only [List.length_append, List.length_cons, List.length_nil, List.length_map] <;> omega) only [he, hbj, d19, cond_true, cond_false, Bool.or_true, Bool.or_false, Nat.reduceBEq, pub_excl2, exc_excl, stepK_call, get_mk, raw_slot, got_excl, pubs, pubsFrom, List.map_cons, List.map_nil, List.getD_cons_zero, List.getD_cons_succ, List.replicate_succ, List.replicate_zero, List.cons_append, List.nil_append, ↓reduceIte, Nat.zero_add, beq_self_eq_true]; refine callK_intro (k36 _) ?_; simp (maxSteps := 2000000) (disch := first | omega | simp only [List.length_append, List.length_cons, List.length_nil, List.length_map] <;> omega) only [List.set_cons_zero, List.set_cons_succ, appC_eq, put_some, wb_nil, wb_cons, List.getElem?_cons_zero, List.getElem?_cons_succ]; done)
            | (simp (maxSteps := 2000000) (disch := first | omega | simp only [List.length_append, List.length_cons, List.length_nil, List.length_map] <;> omega) only [he, hbj, cond_true, cond_false, Bool.or_true, Bool.or_false, Bool.true_or, Bool.false_or, Nat.reduceBEq, q1, q2, q3, q4, q5, q6, q7, qv, nbI, cv_agg, cv_int, cv_str, cv_bool, cv_fn, cv_nilS, cv_nilF, cv_nilP, cv_ptr, cv_sl, cv_slo, cell_fn, eq_pair, eq_four, cell_str, cell_int, cell_bool, cell_nilS, getA0, getA, setA0, setA, ev_ldA, List.drop_succ_cons, List.drop_zero, List.take_succ_cons, List.take_zero, List.append_assoc, Nat.add_zero, List.set_cons_zero, List.set_cons_succ, lpK_n, lpK_e, lpK_r, lpK_g, Int.toNat_natCast, sk_bslO, ev_bslO, sk_storeO, ev_storeO_x, ev_storeO_nil, stepK_callp, app_own, sk_giveP, ev_giveP, pub_excl2, pub_own, sk_loadG, sk_ment, sk_mest, ev_ment, ev_mest, ev_loadG, sk_mkM, sk_lkp, sk_upd, ev_mkM, ev_mkM1, apM_some, ev_lkp, ev_lkpN, ev_upd, ev_lenMp, ev_lenMn, stepK_callv, callvK_fn, ev_idxP, sk_giveO, sk_cpy, sk_slcP, ro_slo, ro1_slo, ro2_slo, got_slo, flg_slo, exc_slo, ev_giveO_x, ev_giveO_nil, ev_giveO_slo, ev_giveO_ro, ev_lenO, ev_eqNs3, ev_idxO, apO_some, ev_b2O, ev_appO, slcO_hi, slcO_lo, slcO_both, slcP_all, ev_cpS, slcO_clone, flg_undef, flg_bool, flg_int, flg_str, flg_nilS, flg_nilP, flg_ptr, flg_agg, flg_tup, flg_nilF, flg_fn, flg_nilM, flg_mp, flg_elv, flg_ro, flg_full, flg_own, flg_excl, exc_undef, exc_bool, exc_int, exc_str, exc_nilS, exc_nilP, exc_ptr, exc_agg, exc_tup, exc_nilF, exc_fn, exc_nilM, exc_mp, exc_elv, exc_ro, exc_full, exc_own, exc_excl, sk_idxB, idxB_ro, idxB_full, idxB_own, idxB_excl, idxB_O, grd_s, swp_seq, swp_reg, swp_skip, swp_ret, swp_exit, swp_label, swp_goto, swp_block, swp_scope, swp_both, swp_cond, seqK_n, seqK_e, seqK_r, seqK_g, blkK_n, blkK_e, blkK_r, blkK_g, noG_n, noG_e, noG_r, scpK_n, scpK_e, scpK_r, scpK_g, condK_t, condK_f, evK_some, appK_eq, appC_eq, grd_t, srun_nil, srun_cons, stepK_call, stepK_grd, fin_ret, fin_n, fin_nil, fin_two, fin_three, swpF_eq, sk_mv, sk_take, sk_give, sk_pick, sk_bin, sk_eqB, sk_eqN, sk_eqA, sk_un, sk_cvI, sk_b2s, sk_s2b, sk_idS, sk_nilc, sk_fld, sk_fldV, sk_idxS, sk_idxV, sk_idxA, sk_idxP, sk_load, sk_store, sk_lenS, sk_lenL, sk_lenA, sk_lenM, sk_min, sk_max, sk_slcS, sk_slcL, sk_mkS, sk_bsl, sk_bld, sk_box, sk_alloc, sk_ext, sk_app, sk_mfn, get_mk, raw_slot, raw_lit, put_some, put_none, wb_nil, wb_cons, ev_mv, ev_take, ev_give, ev_pick, ev_eqB, ev_not, ev_cvI, ev_nilc, ev_fld, ev_lenS, ev_lenL, ev_lenN, ev_min, ev_max, ev_eqNs1, ev_eqNs2, ev_eqNp1, ev_eqNp2, ev_ext, bin_add, bin_sub, bin_mul, bin_and, bin_or, bin_xor, bin_eql, bin_neq, bin_lss, bin_leq, bin_gtr, bin_geq, bin_eqlS, bin_neqS, bin_lssS, unr_succ, unrK_n, unrK_e, unrK_r, unrK_g, ev_b2sN, bsl_nil, ev_bsl, ev_bld, ev_box, ev_alloc, ev_ldP, ldP_some, stP_some, setOb_setOb, setOb_len, ev_loadE, slcS_hi, slcS_lo, slcS_both, slcL_hi_ro, slcL_lo_ro, slcL_both_ro, idxA_ro, slcL_hi_full, slcL_lo_full, slcL_both_full, idxA_full, slcL_hi_own, slcL_lo_own, slcL_both_own, idxA_own, slcL_nil_hi, slcL_nil_both, app_excl_str, ro_undef, ro_int, ro_bool, ro_str, ro_nilS, ro_nilP, ro_nilF, ro_nilM, ro_ptr, ro_mp, ro_fn, ro_elv, ro_ro, ro_full, ro_own, ro_excl, ro_agg, ro_tup, ro1_int, ro1_str, ro1_bool, ro1_nilS, ro2_nilS, ro1_nilP, ro2_nilP, ro1_nilF, ro2_nilF, ro1_nilM, ro2_nilM, ro1_ptr, ro2_ptr, ro1_mp, ro2_mp, ro1_fn, ro2_fn, ro1_ro, ro2_ro, ro1_full, ro2_full, ro1_own, ro2_own, ro2_int, ro2_str, ro2_bool, got_excl, got_own, got_roo, got_full, got_int, got_bool, got_str, got_nilS, got_nilP, got_ptr, got_fn, got_mp, got_undef, got_agg, pub_excl, pubs, pubsFrom, List.map_cons, List.map_nil, List.getD_cons_zero, List.getD_cons_succ, List.getElem?_cons_zero, List.getElem?_cons_succ, List.length_cons, List.length_nil, List.replicate_succ, List.replicate_zero, List.cons_append, List.nil_append, Nat.reduceAdd, Nat.reduceSub, Nat.reduceMul, Nat.reduceLeDiff, Nat.reduceLT, Nat.reduceEqDiff, if_true, if_false, true_and, and_true, Bool.false_eq_true, Option.map_some, Option.bind_some, ↓reduceIte, List.all_cons, List.all_nil, Bool.and_true, Bool.and_self, List.zip_cons_cons, List.zip_nil_left, List.zip_nil_right, rep, fillV, wrCells, List.flatten_cons, List.flatten_nil, List.append_nil, decide_true, decide_false, Nat.zero_mul, Nat.mul_one, Nat.zero_add, reduceCtorEq, not_false_eq_true, forall_const, implies_true, Bool.not_true, Bool.not_false, beq_self_eq_true, bne_self_eq_false, Int.reduceBEq, Int.reduceBNe, st_bool, st_int, st_str, st_nilS, st_nilP, st_ptr, st_nilF, st_fn, st_nilM, st_mp, st_ro, st_full, setOb_same, ge_iff_le, gt_iff_lt, Int.cast_ofNat_Int, or_step, or_zero, Int.zero_mul, Int.reduceLE, Int.reduceLT, Int.reduceMul, Int.reduceSub, Int.reduceAdd, Int.reduceToNat, Int.reduceNeg, Int.reducePow, Nat.reducePow, IntKind.bits, wrap_i64, wrap_u8, bin_shr, bin_shl, Nat.min_def, ne_eq, Nat.one_ne_zero, List.length_append, Nat.le_refl, not_true_eq_false, app_excl, app_nil])
def KBy : List Ob → List SV → SV → Prop := fun st args r => ∃ m : Mf, m.ok st ∧ fitB m ∧ okSt st ∧ args = [.agg m.cells] ∧ r = .str (bytesF m)
def O207 : Orc := O206.add 20 (StC KBy)
theorem s207 : Sound Tryd.prog O207 := s206.addS c20 (by kernel_rfl) (by
  rintro args r st ⟨m, h1, h2, h3, rfl, rfl⟩
  exact ⟨by simp [sf20], g20b m st h1 h2 h3⟩)
end Go.Sh.F
namespace Go.Sh.F
open Go.PathLaw Go.Proofs
def O208 : Orc := O207.add 0 (fun _ _ _ _ => False)
theorem s208 : Sound Tryd.prog O208 := fun f a s r s2 h => h.elim (s207 f a s r s2) (fun k => k.2.elim)
end Go.Sh.F
namespace Go.Sh.F
open Go.PathLaw Go.Proofs
def chV (l : List Int) : SV := match l with | [] => .nilS | _ => .sl (isv l) l.length (.excl 1)
theorem chV_not {l : List Int} (h : l ≠ []) : chV l = .sl (isv l) l.length (.excl 1) := by
  cases l with
  | nil => exact absurd rfl h
  | cons => rfl
theorem app_sl {st : List Ob} {ys : List SV} {m : Nat} {f : Fl} {z : List SV} (hy : ys.length = m * 1) (hb : m ≤ 4294967296) : ev st (.app 1 8 z) [.nilS, .sl ys m f] = some (if m = 0 then .nilS else .sl ys m (.excl 1), [], st) := by
  have h1 : m * 8 ≤ 140737488355328 := by omega
  have h2 : m ≤ 4611686018427387904 := by omega
  show appV 1 8 .nilS (.sl ys m f) st = _
  unfold appV srcV
  simp only [hy, if_true, Option.bind_some, h1, h2, and_self]
theorem app_chN {st s : List Ob} {v : SV} {l : List Int} (hv : RowI s v l) (x : List Ob) (hst : st = s ++ x) (hl : l.length ≤ 4294967296) {z : List SV} : ev st (.app 1 8 z) [.nilS, v] = some (chV l, [], st) := by
  have fin : (if l.length = 0 then SV.nilS else .sl (isv l) l.length (.excl 1)) = chV l := by
    cases l with
    | nil => rfl
    | cons => rfl
  have hv' : RowI st v l := by rw [hst]; exact RowAt.mono hv x
  obtain ⟨h1, ⟨rfl, h2⟩ | ⟨fl, h2, rfl⟩ | ⟨id, off, c, rfl, h2, h3, h4⟩⟩ := hv'
  · have : l = [] := List.eq_nil_of_length_eq_zero h2
    subst this; rfl
  · rw [app_sl h1 hl, fin]
  · rw [ev_appO, h2, apO_some, if_pos h3, h4, ro_isv, app_sl h1 hl, fin]
theorem app_chX {st s : List Ob} {v : SV} {l X : List Int} {k : Nat} (hv : RowI s v l) (x : List Ob) (hst : st = s ++ x) (hk : k = X.length) (hl : X.length + l.length ≤ 4294967296) {z : List SV} :
    ev st (.app 1 8 z) [.sl (isv X) k (.excl 1), v] = some (.sl (isv (X ++ l)) (k + l.length) (.excl 1), [(0, .undef)], st) := by
  have hv' : RowI st v l := by rw [hst]; exact RowAt.mono hv x
  subst hk
  obtain ⟨h1, ⟨rfl, h2⟩ | ⟨fl, h2, rfl⟩ | ⟨id, off, c, rfl, h2, h3, h4⟩⟩ := hv'
  · have : l = [] := List.eq_nil_of_length_eq_zero h2
    subst this
    rw [app_excl_nil (by rw [isv_len, Nat.mul_one]) (by omega) (by omega), List.append_nil]; rfl
  · rw [app_excl (by rw [isv_len, Nat.mul_one]) h1 (by omega) (by omega), isv_app]
  · rw [ev_appO, h2, apO_some, if_pos h3, h4, ro_isv, app_excl (by rw [isv_len, Nat.mul_one]) h1 (by omega) (by omega), isv_app]
def chF (l : List Pc) : List Int := l.flatMap Pc.ch
theorem chF_len {l : List Pc} {n : Nat} (h : ∀ p ∈ l, p.ch.length ≤ n) : (chF l).length ≤ l.length * n := by
  unfold chF
  induction l with
  | nil => simp
  | cons p r ih =>
    rw [List.flatMap_cons, List.length_append, List.length_cons, Nat.succ_mul]
    have h2 := h p List.mem_cons_self
    have h3 := ih fun q hq => h q (List.mem_cons_of_mem _ hq)
    omega
theorem chF_snoc {l : List Pc} {i : Nat} (hi : i < l.length) : chF (l.take (i + 1)) = chF (l.take i) ++ l[i].ch := by
  unfold chF
  rw [← List.take_append_getElem hi, List.flatMap_append, List.flatMap_cons, List.flatMap_nil, List.append_nil]
set_option maxHeartbeats 16000000 in
set_option maxRecDepth 20000 in
theorem g16c (m : Mf) (st : List Ob) (hm : m.ok st) (hB : fitB m) (ho : okSt st) : swpF O208 sf16 [.agg m.cells] st (fun r st' => r = chV (chF m.ps) ∧ st' = st) := by
  obtain ⟨q1, q2, q3, q4, q6, q7⟩ := hm.1.facts
  have q5 := hm.1.lenL
  have qv := hm.1.cv
  have nb := hm.2.1
  have idp := hm.idp 1
  have o1 := okM hm ho
  have ap := fun i (hi : i < m.ps.length) => hm.chs hi [.cells m.cells]
  have f3 := fun i (hi : i < m.ps.length) => hm.f3 hi
  simp only [Mf.cells] at o1 ap f3 ⊢
  simp (maxSteps := 2000000) (disch := first | omega | simp only [List.length_append, List.length_cons, List.length_nil, List.length_map] <;> omega) only [sf16, q1, q5, q6, q7, cv_agg, cell_int, getA0, List.set_cons_zero, List.set_cons_succ, flg_nilS, exc_nilS, exc_agg, swp_seq, swp_reg, swp_block, seqK_n, evK_some, appK_eq, srun_nil, srun_cons, swpF_eq, sk_mv, sk_take, sk_give, sk_fld, sk_load, sk_lenL, sk_box, get_mk, raw_slot, raw_lit, put_some, wb_nil, ev_mv, ev_take, ev_give, ev_fld, ev_box, ev_ldP, ldP_some, ro_int, ro_nilS, ro1_int, got_nilS, got_agg, List.map_cons, List.map_nil, List.getD_cons_zero, List.getD_cons_succ, List.getElem?_cons_zero, List.getElem?_cons_succ, List.length_cons, List.length_nil, List.replicate_succ, List.replicate_zero, List.cons_append, List.nil_append, Nat.reduceSub, Bool.false_eq_true, Option.map_some, ↓reduceIte, List.all_cons, List.all_nil, Bool.and_self, Nat.zero_add]
  refine swp_lp (fun S => ∃ (i : Nat) (b : SV), i ≤ m.ps.length ∧ b = chV (chF (m.ps.take i)) ∧ S = ⟨[.undef, .ptr st.length 0, .undef, b, .undef, .undef, .undef, m.pv, .int .i64 m.ps.length, .int .i64 i] ++ List.replicate 9 .undef, st ++ [.cells [.int .i64 m.au, .int .i64 m.ve, .int .i64 m.pr, .int .i64 m.ep, .int .i64 m.ne, .int .i64 m.se, .int .i64 m.sh, m.pv]]⟩)
      (fun S => match S.get 9 with | .int _ k => ((m.ps.length : Int) - k).toNat | _ => 0)
      ⟨[.undef, .ptr st.length 0, .undef, .nilS, .undef, .undef, .undef, m.pv, .int .i64 m.ps.length, .int .i64 0] ++ List.replicate 9 .undef, st ++ [.cells [.int .i64 m.au, .int .i64 m.ve, .int .i64 m.pr, .int .i64 m.ep, .int .i64 m.ne, .int .i64 m.se, .int .i64 m.sh, m.pv]]⟩ ?_ ⟨0, .nilS, Nat.zero_le _, rfl, rfl⟩ ?_
  · refine Forget.of ?_
    repeat first | exact fg_e | refine fg_d ?_ | refine fg_k rfl ?_
  rintro S ⟨i, b, hi, hb, rfl⟩
  by_cases him : i = m.ps.length
  · have hd : decide ((i : Int) < (m.ps.length : Int)) = false := by rw [decide_eq_false_iff_not]; omega
    have e : b = chV (chF m.ps) := by rw [hb, him, List.take_length]
    rcases list_nil_or (chF m.ps) with hc | hc
    · rw [hc] at e ⊢
      subst e
      simp (maxSteps := 2000000) (disch := first | omega | simp only [List.length_append, List.length_cons, List.length_nil, List.length_map] <;> omega) only [hd, chV, List.set_cons_zero, List.set_cons_succ, lpK_e, flg_nilS, swp_seq, swp_reg, swp_ret, swp_exit, swp_cond, seqK_n, seqK_e, blkK_e, condK_f, evK_some, appK_eq, srun_nil, srun_cons, fin_ret, sk_mv, sk_give, sk_bin, get_mk, raw_slot, put_some, wb_nil, ev_mv, ev_give, bin_lss, ro_nilS, List.map_cons, List.map_nil, List.getD_cons_zero, List.getD_cons_succ, List.length_cons, List.length_nil, List.replicate_succ, List.replicate_zero, List.cons_append, List.nil_append, true_and, Bool.false_eq_true, ↓reduceIte, Nat.zero_add, List.length_append]
      first | exact ⟨_, trim1 ho rfl⟩ | exact ⟨_, trim1 ho rfl, rfl⟩ | exact ⟨_, trim1 ho rfl, rfl, rfl⟩ | exact ⟨_, trim1 ho rfl, by simp, rfl⟩ | exact ⟨_, trim1 ho rfl, by simp⟩
    · rw [chV_not hc] at e ⊢
      subst e
      simp (maxSteps := 2000000) (disch := first | omega | simp only [List.length_append, List.length_cons, List.length_nil, List.length_map] <;> omega) only [hd, List.set_cons_zero, List.set_cons_succ, lpK_e, flg_excl, swp_seq, swp_reg, swp_ret, swp_exit, swp_cond, seqK_n, seqK_e, blkK_e, condK_f, evK_some, appK_eq, srun_nil, srun_cons, fin_ret, sk_mv, sk_give, sk_bin, get_mk, raw_slot, put_some, wb_nil, wb_cons, ev_mv, ev_give, bin_lss, ro_excl, List.map_cons, List.map_nil, List.getD_cons_zero, List.getD_cons_succ, List.getElem?_cons_zero, List.length_cons, List.length_nil, List.replicate_succ, List.replicate_zero, List.cons_append, List.nil_append, true_and, ↓reduceIte, Nat.zero_add, List.length_append]
      first | exact ⟨_, trim1 ho (by simp [idOks, idOk, idOks_isv]), rfl, rfl⟩ | exact ⟨_, trim1 ho (by simp [idOks, idOk, idOks_isv]), rfl⟩ | exact ⟨_, trim1 ho (by simp [idOks, idOk, idOks_isv])⟩
  have hd : decide ((i : Int) < (m.ps.length : Int)) = true := by rw [decide_eq_true_eq]; omega
  have hil : i < m.ps.length := by omega
  have fin : ((m.ps.length : Int) - ((i + 1 : Nat) : Int)).toNat < ((m.ps.length : Int) - (i : Int)).toNat := by omega
  have z1 := hm.1.idxB hil .i64
  have z2 := fun x => hm.at' hil x
  have b3 := f3 i hil
  have bc := ap i hil
  have oa := hm.2.2 _ (List.getElem_mem hil)
  have hbc := hB.2 _ (List.getElem_mem hil)
  have hXl : (chF (m.ps.take i)).length ≤ 1024 * 32768 := by
    have h1 := chF_len (l := m.ps.take i) (n := 32768) fun p hp => hB.2 p (List.mem_of_mem_take hp)
    have h2 : (m.ps.take i).length ≤ 1024 := by rw [List.length_take]; have := hB.1; omega
    exact Nat.le_trans h1 (Nat.mul_le_mul_right 32768 h2)
  have hsn := chF_snoc hil
  obtain ⟨p, ep⟩ : ∃ p, m.ps[i] = p := ⟨_, rfl⟩
  rw [ep] at z2 oa hbc hsn bc
  have m1 := ro1_pc oa
  obtain ⟨w1, w2, w3, w4, w6, w7⟩ := oa.1.facts
  have w5 := oa.1.lenL
  have sP := st_aggA (st := st) (l := [.cells [.int .i64 m.au, .int .i64 m.ve, .int .i64 m.pr, .int .i64 m.ep, .int .i64 m.ne, .int .i64 m.se, .int .i64 m.sh, m.pv], .cells [.str [], .bool false, .int .i64 0, .nilS, .int .i64 0, .int .i64 0, .int .i64 0]]) (i := 1) (n := 7) (b := true) (xs := p.cells) rfl m1 (cell_pc oa) rfl rfl
  obtain ⟨X, eX⟩ : ∃ X, chF (m.ps.take i) = X := ⟨_, rfl⟩
  rw [eX] at hb hXl hsn
  rcases list_nil_or X with hc | hc
  · subst hc
    obtain rfl : b = .nilS := hb
    have ha := app_chN (st := st ++ [.cells [.int .i64 m.au, .int .i64 m.ve, .int .i64 m.pr, .int .i64 m.ep, .int .i64 m.ne, .int .i64 m.se, .int .i64 m.sh, m.pv], .cells p.cells]) oa.1 [.cells [.int .i64 m.au, .int .i64 m.ve, .int .i64 m.pr, .int .i64 m.ep, .int .i64 m.ne, .int .i64 m.se, .int .i64 m.sh, m.pv], .cells p.cells] rfl (by omega) (z := [.int .i64 0])
    rw [List.nil_append] at hsn
    rcases list_nil_or p.ch with hp0 | hp0
    · rw [hp0] at ha hsn
      simp (maxSteps := 2000000) (disch := first | omega | simp only [List.length_append, List.length_cons, List.length_nil, List.length_map] <;> omega) only [hd, z1, z2, sP, pget3, ha, chV, w1, getA, List.append_assoc, List.set_cons_zero, List.set_cons_succ, lpK_n, flg_nilS, sk_idxB, swp_seq, swp_reg, swp_skip, swp_block, swp_cond, seqK_n, blkK_n, condK_t, evK_some, appK_eq, srun_nil, srun_cons, sk_mv, sk_give, sk_bin, sk_fld, sk_load, sk_store, sk_alloc, sk_app, get_mk, raw_slot, raw_lit, put_some, put_none, wb_nil, ev_mv, ev_give, ev_fld, bin_add, bin_lss, ev_alloc, ev_ldP, ldP_some, ro_int, ro_nilS, List.map_cons, List.map_nil, List.getD_cons_zero, List.getD_cons_succ, List.getElem?_cons_zero, List.getElem?_cons_succ, List.length_cons, List.length_nil, List.replicate_succ, List.replicate_zero, List.cons_append, List.nil_append, Bool.false_eq_true, Option.map_some, ↓reduceIte, Nat.zero_add, wrap_i64, List.length_append]
      refine ⟨_, Forget.cutA (l := [_]) (x := [_]) ?_ (by simp) ?_ o1, ⟨i + 1, .nilS, by omega, by rw [hsn], rfl⟩, by exact fin⟩
      · repeat first | exact fg_e | refine fg_d ?_ | refine fg_k rfl ?_
      · simp [idOks, idOk, idp]
    · rw [chV_not hp0] at ha
      simp (maxSteps := 2000000) (disch := first | omega | simp only [List.length_append, List.length_cons, List.length_nil, List.length_map] <;> omega) only [hd, z1, z2, sP, pget3, ha, w1, getA, List.append_assoc, List.set_cons_zero, List.set_cons_succ, lpK_n, flg_excl, sk_idxB, swp_seq, swp_reg, swp_skip, swp_block, swp_cond, seqK_n, blkK_n, condK_t, evK_some, appK_eq, srun_nil, srun_cons, sk_mv, sk_give, sk_bin, sk_fld, sk_load, sk_store, sk_alloc, sk_app, get_mk, raw_slot, raw_lit, put_some, put_none, wb_nil, wb_cons, ev_mv, ev_give, ev_fld, bin_add, bin_lss, ev_alloc, ev_ldP, ldP_some, ro_int, ro_nilS, ro_excl, List.map_cons, List.map_nil, List.getD_cons_zero, List.getD_cons_succ, List.getElem?_cons_zero, List.getElem?_cons_succ, List.length_cons, List.length_nil, List.replicate_succ, List.replicate_zero, List.cons_append, List.nil_append, Option.map_some, ↓reduceIte, Nat.zero_add, wrap_i64, List.length_append]
      refine ⟨_, Forget.cutA (l := [_]) (x := [_]) ?_ (by simp) ?_ o1, ⟨i + 1, _, by omega, by rw [hsn, chV_not hp0], rfl⟩, by exact fin⟩
      · repeat first | exact fg_e | refine fg_d ?_ | refine fg_k rfl ?_
      · simp [idOks, idOk, idp, idOks_isv]
  · rw [chV_not hc] at hb
    subst hb
    have ha := app_chX (st := st ++ [.cells [.int .i64 m.au, .int .i64 m.ve, .int .i64 m.pr, .int .i64 m.ep, .int .i64 m.ne, .int .i64 m.se, .int .i64 m.sh, m.pv], .cells p.cells]) (X := X) (k := X.length) oa.1 [.cells [.int .i64 m.au, .int .i64 m.ve, .int .i64 m.pr, .int .i64 m.ep, .int .i64 m.ne, .int .i64 m.se, .int .i64 m.sh, m.pv], .cells p.cells] rfl rfl (by omega) (z := [.int .i64 0])
    have hne : X ++ p.ch ≠ [] := by intro h; exact hc (List.append_eq_nil_iff.1 h).1
    simp (maxSteps := 2000000) (disch := first | omega | simp only [List.length_append, List.length_cons, List.length_nil, List.length_map] <;> omega) only [hd, z1, z2, sP, pget3, ha, w1, getA, List.append_assoc, List.set_cons_zero, List.set_cons_succ, lpK_n, flg_excl, sk_idxB, swp_seq, swp_reg, swp_skip, swp_block, swp_cond, seqK_n, blkK_n, condK_t, evK_some, appK_eq, srun_nil, srun_cons, sk_mv, sk_give, sk_bin, sk_fld, sk_load, sk_store, sk_alloc, sk_app, get_mk, raw_slot, raw_lit, put_some, put_none, wb_nil, wb_cons, ev_mv, ev_give, ev_fld, bin_add, bin_lss, ev_alloc, ev_ldP, ldP_some, ro_int, ro_excl, List.map_cons, List.map_nil, List.getD_cons_zero, List.getD_cons_succ, List.getElem?_cons_zero, List.getElem?_cons_succ, List.length_cons, List.length_nil, List.replicate_succ, List.replicate_zero, List.cons_append, List.nil_append, Option.map_some, ↓reduceIte, Nat.zero_add, wrap_i64, List.length_append]
    refine ⟨_, Forget.cutA (l := [_]) (x := [_]) ?_ (by simp) ?_ o1, ⟨i + 1, .sl (isv (X ++ p.ch)) (X.length + p.ch.length) (.excl 1), by omega, by rw [hsn, chV_not hne, List.length_append], rfl⟩, by exact fin⟩
    · repeat first | exact fg_e | refine fg_d ?_ | refine fg_k rfl ?_
    · simp [idOks, idOk, idp, idOks_isv]
def KCh : List Ob → List SV → SV → Prop := fun st args r => ∃ m : Mf, m.ok st ∧ fitB m ∧ okSt st ∧ args = [.agg m.cells] ∧ r = chV (chF m.ps)
def O209 : Orc := O208.add 16 (StC KCh)
theorem s209 : Sound Tryd.prog O209 := s208.addS c16 (by kernel_rfl) (by
  rintro args r st ⟨m, h1, h2, h3, rfl, rfl⟩
  exact ⟨by simp [sf16], g16c m st h1 h2 h3⟩)
def O210 : Orc := O209.add 0 (fun _ _ _ _ => False)
theorem s210 : Sound Tryd.prog O210 := fun f a s r s2 h => h.elim (s209 f a s r s2) (fun k => k.2.elim)
end Go.Sh.F
namespace Go.Sh.F
open Go.PathLaw Go.Proofs
def numsF (most : Int) : Nat → W.RdS → List Int × W.RdS
  | 0, s => ([], s)
  | n + 1, s => ((W.numF s most).1 :: (numsF most n (W.numF s most).2).1, (numsF most n (W.numF s most).2).2)
theorem numsF_snoc (most : Int) : ∀ (n : Nat) (s : W.RdS), numsF most (n + 1) s = ((numsF most n s).1 ++ [(W.numF (numsF most n s).2 most).1], (W.numF (numsF most n s).2 most).2)
  | 0, s => rfl
  | n + 1, s => by
    have := numsF_snoc most n (W.numF s most).2
    rw [numsF, this]
    simp only [numsF, List.cons_append]
def stR (st : List Ob) (rid : Nat) (v : SV) (s : W.RdS) : List Ob := setOb st rid [v, .int .i64 s.p, .int .i64 s.e]
theorem stR_len {st : List Ob} {rid : Nat} {v : SV} {s : W.RdS} : (stR st rid v s).length = st.length := by unfold stR; rw [setOb_len]
theorem stR_get {st : List Ob} {rid : Nat} {v : SV} {s : W.RdS} (h : rid < st.length) (l : List Ob) : (stR st rid v s ++ l)[rid]? = some (.cells [v, .int .i64 s.p, .int .i64 s.e]) := by
  rw [List.getElem?_append_left (by rw [stR_len]; exact h)]
  unfold stR setOb
  rw [List.getElem?_set_self h]
theorem stR_set {st : List Ob} {rid : Nat} {v : SV} {s s' : W.RdS} (h : rid < st.length) (l : List Ob) : setOb (stR st rid v s ++ l) rid [v, .int .i64 s'.p, .int .i64 s'.e] = stR st rid v s' ++ l := by
  unfold setOb
  rw [List.set_append_left _ _ (by rw [stR_len]; exact h)]
  unfold stR setOb
  rw [List.set_set]
def rdOk (v : SV) (s : W.RdS) : Prop := W.rdv v s.l ∧ s.l.length ≤ 1099511627776 ∧ s.p ≤ s.l.length
theorem rdOk_num {v : SV} {s : W.RdS} (h : rdOk v s) (most : Int) : rdOk v (W.numF s most).2 ∧ (W.numF s most).2.l = s.l := by
  obtain ⟨n, p, e, h1, h2, h3⟩ := W.numF_spec s most h.2.2
  rw [h1]
  exact ⟨⟨h.1, h.2.1, h3⟩, rfl⟩
theorem rdOk_nums {v : SV} {most : Int} : ∀ (n : Nat) {s : W.RdS}, rdOk v s → rdOk v (numsF most n s).2 ∧ (numsF most n s).2.l = s.l ∧ (numsF most n s).1.length = n
  | 0, s, h => ⟨h, rfl, rfl⟩
  | n + 1, s, h => by
    obtain ⟨h1, h2⟩ := rdOk_num h most
    obtain ⟨h3, h4, h5⟩ := rdOk_nums (most := most) n h1
    simp only [numsF]
    exact ⟨h3, h4.trans h2, by rw [List.length_cons, h5]⟩
theorem xNum {st : List Ob} {rid : Nat} {v : SV} {s : W.RdS} (hr : rid < st.length) (h : rdOk v s) (most : Int) (l : List Ob) :
    O210 42 [.ptr rid 0, .int .i64 most] (stR st rid v s ++ l) (.int .i64 (W.numF s most).1) (stR st rid v (W.numF s most).2 ++ l) := by
  have e : stR st rid v (W.numF s most).2 ++ l = setOb (stR st rid v s ++ l) rid [v, .int .i64 (W.numF s most).2.p, .int .i64 (W.numF s most).2.e] := (stR_set hr l).symm
  rw [e]
  exact (.inl (.inl (.inl (.inl (.inl (.inl (.inl (.inl (.inl (.inl ((.inr (by repeat first | exact Or.inr ⟨rfl, s, v, rid, most, h.1, h.2.1, h.2.2, stR_get hr l, rfl, rfl, rfl⟩ | refine Or.inl ?_)))))))))))))
def setL (c : List SV) : List Nat → List Int → List SV
  | o :: os, x :: xs => setL (c.set o (.int .i64 x)) os xs
  | _, _ => c
theorem setL_len : ∀ (os : List Nat) (xs : List Int) (c : List SV), (setL c os xs).length = c.length
  | [], _, c => by cases ‹List Int› <;> rfl
  | o :: os, [], c => rfl
  | o :: os, x :: xs, c => by rw [setL, setL_len os xs, List.length_set]
theorem setL_snoc : ∀ (os : List Nat) (xs : List Int) (c : List SV) (o : Nat) (x : Int), os.length = xs.length → setL c (os ++ [o]) (xs ++ [x]) = (setL c os xs).set o (.int .i64 x)
  | [], [], c, o, x, _ => rfl
  | [], _ :: _, _, _, _, h => by simp at h
  | _ :: _, [], _, _, _, h => by simp at h
  | a :: os, b :: xs, c, o, x, h => by
    rw [List.cons_append, List.cons_append, setL, setL]
    exact setL_snoc os xs _ o x (by simpa using h)
def ptrs (id : Nat) (os : List Nat) : List SV := os.map fun o => .ptr id o
structure TwoOb (F : W.RdS → List SV → List Ob) (rid tid : Nat) (v : SV) : Prop where
  g1 : ∀ s c, (F s c)[rid]? = some (.cells [v, .int .i64 s.p, .int .i64 s.e])
  g2 : ∀ s c, (F s c)[tid]? = some (.cells c)
  s1 : ∀ s c s', setOb (F s c) rid [v, .int .i64 (W.RdS.p s'), .int .i64 (W.RdS.e s')] = F s' c
  s2 : ∀ s c c', setOb (F s c) tid c' = F s c'
theorem xNumF {F : W.RdS → List SV → List Ob} {rid tid : Nat} {v : SV} (hF : TwoOb F rid tid v) {s : W.RdS} (h : rdOk v s) (most : Int) (c : List SV) :
    O210 42 [.ptr rid 0, .int .i64 most] (F s c) (.int .i64 (W.numF s most).1) (F (W.numF s most).2 c) := by
  rw [← hF.s1 s c (W.numF s most).2]
  exact (.inl (.inl (.inl (.inl (.inl (.inl (.inl (.inl (.inl (.inl ((.inr (by repeat first | exact Or.inr ⟨rfl, s, v, rid, most, h.1, h.2.1, h.2.2, hF.g1 s c, rfl, rfl, rfl⟩ | refine Or.inl ?_)))))))))))))
set_option maxHeartbeats 8000000 in
theorem g41 {F : W.RdS → List SV → List Ob} {rid tid : Nat} {v : SV} (hF : TwoOb F rid tid v) (s : W.RdS) (c : List SV) (os : List Nat) (w : SV) (hs : rdOk v s) (ho : ∀ o ∈ os, o < c.length) (hn : os.length ≤ 16777216)
    (hw : w = .sl (ptrs tid os) os.length .ro ∨ w = .sl (ptrs tid os) os.length .full) :
    swpF O210 sf41 [.ptr rid 0, w] (F s c) (fun r st' => r = .tup [] ∧ st' = F (numsF MX os.length s).2 (setL c os (numsF MX os.length s).1)) := by
  have hrow : RowAt (F s c) w 1 os.length (ptrs tid os) := by
    refine ⟨by simp [ptrs], .inr (.inl ?_)⟩
    rcases hw with h | h
    · exact ⟨.ro, .inl rfl, h⟩
    · exact ⟨.full, .inr rfl, h⟩
  obtain ⟨q1, q2, q3, q4, q6, q7⟩ := hrow.facts
  have q5 := hrow.lenL
  simp (maxSteps := 2000000) (disch := first | omega | simp only [List.length_append, List.length_cons, List.length_nil, List.length_map] <;> omega) only [sf41, q1, q5, List.set_cons_zero, List.set_cons_succ, swp_seq, swp_reg, swp_block, seqK_n, evK_some, appK_eq, srun_nil, srun_cons, swpF_eq, sk_mv, sk_lenL, get_mk, raw_slot, raw_lit, put_some, wb_nil, ev_mv, ro_int, List.map_cons, List.map_nil, List.getD_cons_zero, List.getD_cons_succ, List.length_cons, List.length_nil, List.replicate_succ, List.replicate_zero, List.cons_append, List.nil_append, Nat.reduceAdd, Nat.reduceSub, Nat.zero_add]
  refine swp_lp (fun S => ∃ (i : Nat), i ≤ os.length ∧ S = ⟨[.ptr rid 0, .undef, .undef, .undef, .undef, .undef, w, .int .i64 os.length, .int .i64 i] ++ List.replicate 8 .undef, F (numsF MX i s).2 (setL c (os.take i) (numsF MX i s).1)⟩)
      (fun S => match S.get 8 with | .int _ k => ((os.length : Int) - k).toNat | _ => 0)
      ⟨[.ptr rid 0, .undef, .undef, .undef, .undef, .undef, w, .int .i64 os.length, .int .i64 0] ++ List.replicate 8 .undef, F s c⟩ ?_ ⟨0, Nat.zero_le _, rfl⟩ ?_
  · refine Forget.of ?_
    repeat first | exact fg_e | refine fg_d ?_ | refine fg_k rfl ?_
  rintro S ⟨i, hi, rfl⟩
  by_cases him : i = os.length
  · have hd : decide ((i : Int) < (os.length : Int)) = false := by rw [decide_eq_false_iff_not]; omega
    subst him
    rw [List.take_length]
    simp (maxSteps := 2000000) (disch := first | omega | simp only [List.length_append, List.length_cons, List.length_nil, List.length_map] <;> omega) only [hd, List.set_cons_zero, List.set_cons_succ, lpK_e, swp_seq, swp_reg, swp_exit, swp_cond, seqK_n, seqK_e, blkK_e, condK_f, evK_some, appK_eq, srun_nil, srun_cons, fin_n, fin_nil, sk_bin, get_mk, raw_slot, put_some, wb_nil, bin_lss, List.map_cons, List.map_nil, List.getD_cons_zero, List.getD_cons_succ, List.replicate_succ, List.replicate_zero, List.cons_append, List.nil_append, true_and, ↓reduceIte]
    first | exact ⟨_, .same, rfl, rfl⟩ | exact ⟨_, .same, rfl⟩ | exact ⟨_, .same⟩
  have hd : decide ((i : Int) < (os.length : Int)) = true := by rw [decide_eq_true_eq]; omega
  have hil : i < os.length := by omega
  have fin : ((os.length : Int) - ((i + 1 : Nat) : Int)).toNat < ((os.length : Int) - (i : Int)).toNat := by omega
  obtain ⟨hsi, hli, hxi⟩ := rdOk_nums (most := MX) i hs
  have hnext := numsF_snoc MX i s
  obtain ⟨xs, si, eN⟩ : ∃ xs si, numsF MX i s = (xs, si) := ⟨_, _, rfl⟩
  rw [eN] at hsi hli hxi hnext ⊢
  simp only at hsi hli hxi hnext
  have hptr : (ptrs tid os)[i]? = some (.ptr tid os[i]) := by simp [ptrs, hil]
  have z1 : ∀ s2, ev s2 (.idxB 1) [w, .int .i64 (i : Int)] = some (adr w i, [], s2) := by
    have := hrow.idxB hil .i64
    rwa [Nat.mul_one] at this
  have z2 : ∀ s2, ev s2 (.load 1 false) [adr w i] = some (.ptr tid os[i], [], s2) := by
    intro s2
    rcases hw with rfl | rfl
    · show ev s2 (.load 1 false) [.elv _ i] = _
      rw [ev_loadE, hptr]; rfl
    · show ev s2 (.load 1 false) [.elv _ i] = _
      rw [ev_loadE, hptr]; rfl
  have hoi : os[i] < c.length := ho _ (List.getElem_mem hil)
  have hts : os.take (i + 1) = os.take i ++ [os[i]] := (List.take_append_getElem hil).symm
  have hsnoc := setL_snoc (os.take i) xs c os[i] (W.numF si MX).1 (by rw [List.length_take, hxi]; omega)
  have hcl := setL_len (os.take i) xs c
  obtain ⟨ci, eci⟩ : ∃ ci, setL c (os.take i) xs = ci := ⟨_, rfl⟩
  rw [eci] at hsnoc hcl ⊢
  have hst : ∀ (s' : W.RdS) (x : Int), ev (F s' ci) (.store 1 true) [.ptr tid os[i], .int .i64 x] = some (.undef, [], F s' (ci.set os[i] (.int .i64 x))) := by
    intro s' x
    rw [st_int, hF.g2, stP_some, if_pos (by omega), hF.s2]
  have k42 := xNumF hF hsi MX ci
  simp (maxSteps := 2000000) (disch := first | omega | simp only [List.length_append, List.length_cons, List.length_nil, List.length_map] <;> omega) only [hd, z1, z2, List.set_cons_zero, List.set_cons_succ, flg_ptr, exc_int, exc_ptr, sk_idxB, swp_seq, swp_reg, swp_skip, swp_block, swp_cond, seqK_n, condK_t, evK_some, appK_eq, srun_nil, srun_cons, stepK_call, sk_mv, sk_give, sk_bin, sk_load, get_mk, raw_slot, raw_lit, put_some, wb_nil, ev_mv, ev_give, bin_lss, ro_ptr, got_int, got_ptr, pubs, pubsFrom, List.map_cons, List.map_nil, List.getD_cons_zero, List.getD_cons_succ, List.replicate_succ, List.replicate_zero, List.cons_append, List.nil_append, Bool.false_eq_true, ↓reduceIte]
  refine callK_intro k42 ?_
  simp (maxSteps := 2000000) (disch := first | omega | simp only [List.length_append, List.length_cons, List.length_nil, List.length_map] <;> omega) only [hst, List.set_cons_zero, List.set_cons_succ, lpK_n, swp_reg, seqK_n, blkK_n, evK_some, appK_eq, appC_eq, srun_nil, srun_cons, sk_mv, sk_bin, sk_nilc, sk_store, get_mk, raw_slot, raw_lit, put_some, put_none, wb_nil, ev_mv, ev_nilc, bin_add, ro_int, List.map_cons, List.map_nil, List.getD_cons_zero, List.getD_cons_succ, wrap_i64]
  refine ⟨_, ?_, ⟨i + 1, by omega, rfl⟩, by exact fin⟩
  rw [hts, hnext]
  simp only
  rw [hsnoc]
  refine Forget.of ?_
  repeat first | exact fg_e | refine fg_d ?_ | refine fg_k rfl ?_
theorem two_stR {st0 : List Ob} {rid : Nat} {v : SV} {l : List Ob} {j : Nat} (hr : rid < st0.length) (hj : j < l.length) : TwoOb (fun s c => stR st0 rid v s ++ l.set j (.cells c)) rid (st0.length + j) v where
  g1 s c := stR_get hr _
  g2 s c := by
    have := getA (st := stR st0 rid v s) (l := l.set j (.cells c)) (i := j)
    rw [stR_len] at this
    rw [this, List.getElem?_set_self hj]
  s1 s c s' := stR_set hr _
  s2 s c c' := by
    have := setA (st := stR st0 rid v s) (l := l.set j (.cells c)) (i := j) (x := c')
    rw [stR_len] at this
    rw [this, List.set_set]
end Go.Sh.F
namespace Go.Sh.F
open Go.PathLaw Go.Proofs
def KRun (O : Orc) (sf : SF) : List SV → List Ob → SV → List Ob → Prop := fun args st r st' => args.length ≤ sf.nt ∧ swpF O sf args st (fun r' s' => r' = r ∧ s' = st')
def O211 : Orc := O210.add 41 (KRun O210 sf41)
theorem s211 : Sound Tryd.prog O211 := s210.add c41 (by kernel_rfl) (by
  rintro args st r st' ⟨h, hr⟩
  exact ⟨h, hr⟩)
theorem numF_le {s : W.RdS} {most : Int} (h0 : 0 ≤ most) (hp : s.p ≤ s.l.length) : ∃ n : Nat, (W.numF s most).1 = n ∧ (n : Int) ≤ most := by
  obtain ⟨n, p, e, h1, h2, h3⟩ := W.numF_spec s most hp
  refine ⟨n, by rw [h1], ?_⟩
  have : (W.numF s most).1 ≤ most := by
    unfold W.numF
    split
    · exact h0
    · split
      · exact h0
      · split
        · exact h0
        · rename_i h; simp only at h ⊢; omega
  rw [h1] at this; exact this
theorem rdOk_text {v : SV} {s : W.RdS} (h : rdOk v s) (most : Int) : rdOk v (W.textF s most).2 ∧ (W.textF s most).2.l = s.l := by
  obtain ⟨x, p, e, h1, h2, h3⟩ := W.textF_spec s most h.2.2
  rw [h1]
  exact ⟨⟨h.1, h.2.1, h2⟩, rfl⟩
theorem xText {st : List Ob} {rid : Nat} {v : SV} {s : W.RdS} (hr : rid < st.length) (h : rdOk v s) (most : Int) (l : List Ob) :
    O211 63 [.ptr rid 0, .int .i64 most] (stR st rid v s ++ l) (.str (W.textF s most).1) (stR st rid v (W.textF s most).2 ++ l) := by
  have e : stR st rid v (W.textF s most).2 ++ l = setOb (stR st rid v s ++ l) rid [v, .int .i64 (W.textF s most).2.p, .int .i64 (W.textF s most).2.e] := (stR_set hr l).symm
  rw [e]
  exact (.inl (.inl (.inl (.inl (.inl (.inl (.inl (.inl (.inl (.inl (.inl ((.inr (by repeat first | exact Or.inr ⟨rfl, s, v, rid, most, h.1, h.2.1, h.2.2, stR_get hr l, rfl, rfl, rfl⟩ | refine Or.inl ?_))))))))))))))
theorem xNum1 {st : List Ob} {rid : Nat} {v : SV} {s : W.RdS} (hr : rid < st.length) (h : rdOk v s) (most : Int) (l : List Ob) :
    O211 42 [.ptr rid 0, .int .i64 most] (stR st rid v s ++ l) (.int .i64 (W.numF s most).1) (stR st rid v (W.numF s most).2 ++ l) := .inl (xNum hr h most l)
theorem xInto {st0 : List Ob} {rid : Nat} {v : SV} {s : W.RdS} {l : List Ob} {j : Nat} {c : List SV} (os : List Nat) (hr : rid < st0.length) (hs : rdOk v s) (hl : l[j]? = some (.cells c)) (ho : ∀ o ∈ os, o < c.length) (hn : os.length ≤ 16777216) :
    O211 41 [.ptr rid 0, .sl (ptrs (st0.length + j) os) os.length .ro] (stR st0 rid v s ++ l) (.tup []) (stR st0 rid v (numsF MX os.length s).2 ++ l.set j (.cells (setL c os (numsF MX os.length s).1))) :=
by
  have hj := (List.getElem?_eq_some_iff.1 hl).1
  have e : l.set j (.cells c) = l := by
    obtain ⟨_, h⟩ := List.getElem?_eq_some_iff.1 hl
    rw [← h]; exact List.set_getElem_self _
  have := g41 (two_stR (l := l) (v := v) hr hj) s c os _ hs ho hn (.inl rfl)
  simp only [e] at this
  exact .inr ⟨rfl, by simp [sf41], this⟩
theorem getR {st : List Ob} {rid : Nat} {v : SV} {s : W.RdS} {l : List Ob} {i : Nat} : (stR st rid v s ++ l)[st.length + i]? = l[i]? := by
  have := getA (st := stR st rid v s) (l := l) (i := i)
  rwa [stR_len] at this
theorem setR {st : List Ob} {rid : Nat} {v : SV} {s : W.RdS} {l : List Ob} {i : Nat} {x : List SV} : setOb (stR st rid v s ++ l) (st.length + i) x = stR st rid v s ++ l.set i (.cells x) := by
  have := setA (st := stR st rid v s) (l := l) (i := i) (x := x)
  rwa [stR_len] at this
theorem st_aggR {st l : List Ob} {rid : Nat} {v : SV} {s : W.RdS} {i n : Nat} {c xs : List SV} {b : Bool} (hl : l[i]? = some (.cells c)) (h1 : xs.map ro1 = xs) (h2 : xs.all isCell = true) (hn : xs.length = n) (hc : c.length = n) :
    ev (stR st rid v s ++ l) (.store n b) [.ptr (st.length + i) 0, .agg xs] = some (.undef, [], stR st rid v s ++ l.set i (.cells xs)) := by
  have := st_aggA (st := stR st rid v s) (b := b) hl h1 h2 hn hc
  rwa [stR_len] at this
theorem evMk {st : List Ob} {n : Nat} (h : n ≤ 1073741824) : ev st (.mkS 1 8 [.int .i64 0]) [.int .i64 (n : Int), .int .i64 (n : Int)] = some (.sl (isv (List.replicate n 0)) n (.excl 1), [], st) := by
  have e : ∀ k, rep k [SV.int .i64 0] = isv (List.replicate k 0) := by
    intro k
    induction k with
    | zero => rfl
    | succ k ih =>
      show (List.replicate (k + 1) [SV.int .i64 0]).flatten = _
      rw [List.replicate_succ, List.flatten_cons, List.replicate_succ]
      exact congrArg (fun z => SV.int .i64 0 :: z) ih
  show (if 0 ≤ (n : Int) ∧ (n : Int) = (n : Int) ∧ (n : Int) * ((8 : Nat) : Int) ≤ 140737488355328 ∧ (n : Int) ≤ 1073741824 then some (SV.sl (rep (n : Int).toNat [.int .i64 0]) (n : Int).toNat (.excl 1), [], st) else none) = _
  rw [if_pos ⟨by omega, rfl, by omega, by omega⟩, Int.toNat_natCast, e]
def pT (s : W.RdS) : List UInt8 × W.RdS := W.textF s 52
def pA (s : W.RdS) : Int × W.RdS := W.numF (pT s).2 1
def pB (s : W.RdS) : List Int × W.RdS := numsF MX 4 (pA s).2
def pK (s : W.RdS) : Int × W.RdS := W.numF (pB s).2 10
def pC (s : W.RdS) : List Int × W.RdS := numsF MX (pK s).1.toNat (pK s).2
def pcF (id : Nat) (s : W.RdS) : Pc := ⟨(pT s).1, (pA s).1 == 1, (pB s).1.getD 0 0, .slo id 0 (pC s).1.length, (pC s).1, (pB s).1.getD 1 0, (pB s).1.getD 2 0, (pB s).1.getD 3 0⟩
theorem repl_set {xs : List Int} {i k : Nat} {x : Int} (hx : xs.length = i) (hk : i < k) : (isv (xs ++ List.replicate (k - i) 0)).set i (.int .i64 x) = isv (xs ++ [x] ++ List.replicate (k - (i + 1)) 0) := by
  subst hx
  obtain ⟨d, rfl⟩ : ∃ d, k = xs.length + 1 + d := ⟨k - (xs.length + 1), by omega⟩
  have e1 : xs.length + 1 + d - xs.length = d + 1 := by omega
  have e2 : xs.length + 1 + d - (xs.length + 1) = d := by omega
  rw [e1, e2, List.replicate_succ]
  unfold isv
  rw [List.map_append, List.map_cons, List.set_append_right _ _ (by simp)]
  simp
theorem cell_p {a b : Nat} : isCell (.ptr a b) = true := rfl
set_option maxHeartbeats 16000000 in
set_option maxRecDepth 20000 in
theorem g43p (st0 : List Ob) (rid : Nat) (v : SV) (s : W.RdS) (l : List Ob) (hr : rid < st0.length) (hs : rdOk v s) :
    swpF O211 sf43 [.ptr rid 0] (stR st0 rid v s ++ l) (fun r st' => r = .agg (pcF (st0.length + (l.length + 2)) s).cells ∧
      st' = stR st0 rid v (pC s).2 ++ (l ++ [.cells (pcF (st0.length + (l.length + 2)) s).cells, .cells (pcF (st0.length + (l.length + 2)) s).cells, .cells (isv (pC s).1)])) := by
  have gl1 : ∀ a b : Ob, (l ++ [a, b])[l.length + 1]? = some b := fun a b => by simp
  have gl2 : ∀ a b d : Ob, (l ++ [a, b, d])[l.length + 1]? = some b := fun a b d => by simp
  have gl3 : ∀ a b d : Ob, (l ++ [a, b, d])[l.length + 2]? = some d := fun a b d => by simp
  have gl4 : ∀ a b d : Ob, (l ++ [a, b, d])[l.length]? = some a := fun a b d => by simp
  have sl1 : ∀ a b x : Ob, (l ++ [a, b]).set (l.length + 1) x = l ++ [a, x] := fun a b x => by simp
  have sl2 : ∀ a b d x : Ob, (l ++ [a, b, d]).set (l.length + 1) x = l ++ [a, x, d] := fun a b d x => by simp
  have sl3 : ∀ a b d x : Ob, (l ++ [a, b, d]).set (l.length + 2) x = l ++ [a, b, x] := fun a b d x => by simp
  have sl4 : ∀ a b d x : Ob, (l ++ [a, b, d]).set l.length x = l ++ [x, b, d] := fun a b d x => by simp
  obtain ⟨h1, hl1⟩ := rdOk_text hs 52
  have kT := xText hr hs 52 (l ++ [.cells [.str [], .bool false, .int .i64 0, .nilS, .int .i64 0, .int .i64 0, .int .i64 0]])
  obtain ⟨t, s1, eT⟩ : ∃ t s1, W.textF s 52 = (t, s1) := ⟨_, _, rfl⟩
  rw [eT] at h1 hl1 kT
  simp only at h1 hl1 kT
  obtain ⟨h2, hl2⟩ := rdOk_num h1 1
  have kA := fun l => xNum1 (st := st0) (l := l) hr h1 1
  obtain ⟨a, s2, eA⟩ : ∃ a s2, W.numF s1 1 = (a, s2) := ⟨_, _, rfl⟩
  rw [eA] at h2 hl2 kA
  simp only at h2 hl2 kA
  obtain ⟨h3, hl3, _⟩ := rdOk_nums (most := MX) 4 h2
  obtain ⟨x0, x1, x2, x3, s3, eB⟩ : ∃ x0 x1 x2 x3 s3, numsF MX 4 s2 = ([x0, x1, x2, x3], s3) := ⟨_, _, _, _, _, rfl⟩
  rw [eB] at h3 hl3
  simp only at h3 hl3
  have kB := xInto (st0 := st0) (l := l ++ [.cells [.str [], .bool false, .int .i64 0, .nilS, .int .i64 0, .int .i64 0, .int .i64 0], .cells [.str t, .bool (a == 1), .int .i64 0, .nilS, .int .i64 0, .int .i64 0, .int .i64 0]]) (j := l.length + 1) [2, 4, 5, 6] hr h2 (gl1 _ _) (by simp) (by simp)
  rw [show ([2, 4, 5, 6] : List Nat).length = 4 from rfl, eB, sl1] at kB
  simp only [setL, List.set_cons_succ, List.set_cons_zero, ptrs, List.map_cons, List.map_nil] at kB
  obtain ⟨kn, ek, hkn⟩ := numF_le (most := 10) (by decide) h3.2.2
  obtain ⟨h4, hl4⟩ := rdOk_num h3 10
  have kK := fun l => xNum1 (st := st0) (l := l) hr h3 10
  obtain ⟨kz, s4, eK⟩ : ∃ kz s4, W.numF s3 10 = (kz, s4) := ⟨_, _, rfl⟩
  rw [eK] at h4 hl4 kK ek
  simp only at h4 hl4 kK ek
  subst ek
  have hpT : pT s = (t, s1) := eT
  have hpA : pA s = (a, s2) := by unfold pA; rw [hpT]; exact eA
  have hpB : pB s = ([x0, x1, x2, x3], s3) := by unfold pB; rw [hpA]; exact eB
  have hpK : pK s = ((kn : Int), s4) := by unfold pK; rw [hpB]; exact eK
  have hpC : pC s = numsF MX kn s4 := by unfold pC; rw [hpK]; rfl
  obtain ⟨_, _, hcl⟩ := rdOk_nums (most := MX) kn h4
  have hpF : pcF (st0.length + (l.length + 2)) s = ⟨t, a == 1, x0, .slo (st0.length + (l.length + 2)) 0 kn, (numsF MX kn s4).1, x1, x2, x3⟩ := by
    unfold pcF; rw [hpT, hpA, hpB, hpC, hcl]; rfl
  rw [hpF, hpC]
  have s7 := fun s' => st_aggR (st := st0) (rid := rid) (v := v) (s := s') (l := l ++ [.cells [.str [], .bool false, .int .i64 0, .nilS, .int .i64 0, .int .i64 0, .int .i64 0], .cells [.str [], .bool false, .int .i64 0, .nilS, .int .i64 0, .int .i64 0, .int .i64 0]]) (i := l.length + 1) (n := 7) (b := true) (c := [.str [], .bool false, .int .i64 0, .nilS, .int .i64 0, .int .i64 0, .int .i64 0]) (xs := [.str t, .bool false, .int .i64 0, .nilS, .int .i64 0, .int .i64 0, .int .i64 0]) (gl1 _ _) rfl rfl rfl rfl
  simp only [sl1] at s7
  have hmk := fun st' => evMk (st := st') (n := kn) (by omega)
  simp only [Pc.cells]
  simp (maxSteps := 2000000) (disch := first | omega | simp only [List.length_append, List.length_cons, List.length_nil, List.length_map] <;> omega) only [sf43, stR_len, List.append_assoc, List.set_cons_zero, List.set_cons_succ, exc_int, exc_ptr, swp_seq, swp_reg, seqK_n, evK_some, appK_eq, srun_nil, srun_cons, stepK_call, swpF_eq, sk_mv, sk_alloc, get_mk, raw_slot, raw_lit, put_some, wb_nil, ev_mv, ev_alloc, ro_ptr, got_int, got_ptr, pubs, pubsFrom, List.map_cons, List.map_nil, List.getD_cons_zero, List.length_cons, List.length_nil, List.replicate_succ, List.replicate_zero, List.cons_append, List.nil_append, Nat.reduceSub, Bool.false_eq_true, ↓reduceIte, Nat.zero_add, List.length_append]
  refine callK_intro kT ?_
  simp (maxSteps := 2000000) (disch := first | omega | simp only [List.length_append, List.length_cons, List.length_nil, List.length_map] <;> omega) only [s7, stR_len, cv_str, cell_str, List.append_assoc, List.set_cons_zero, List.set_cons_succ, exc_int, exc_str, exc_ptr, swp_seq, swp_reg, seqK_n, evK_some, appK_eq, appC_eq, srun_nil, srun_cons, stepK_call, sk_mv, sk_store, sk_bld, sk_alloc, get_mk, raw_slot, raw_lit, put_some, put_none, wb_nil, ev_mv, ev_bld, ev_alloc, ro_ptr, got_int, got_str, got_ptr, pubs, pubsFrom, List.map_cons, List.map_nil, List.getD_cons_zero, List.getD_cons_succ, List.length_cons, List.length_nil, List.cons_append, List.nil_append, Nat.reduceAdd, Nat.reduceLeDiff, and_true, Bool.false_eq_true, Option.map_some, ↓reduceIte, List.all_cons, List.all_nil, Bool.and_self, List.zip_cons_cons, List.zip_nil_right, fillV, wrCells, Nat.zero_add, List.length_append]
  refine callK_intro (kA _) ?_
  simp (maxSteps := 2000000) (disch := first | omega | simp only [List.length_append, List.length_cons, List.length_nil, List.length_map] <;> omega) only [cell_p, getR, gl1, sl1, setR, cv_ptr, Nat.add_zero, List.set_cons_zero, List.set_cons_succ, pub_excl2, exc_ptr, exc_excl, swp_seq, swp_reg, seqK_n, evK_some, appK_eq, appC_eq, srun_nil, srun_cons, stepK_call, sk_mv, sk_bin, sk_fld, sk_store, sk_bsl, get_mk, raw_slot, raw_lit, put_some, put_none, wb_nil, ev_mv, ev_fld, bin_eql, ev_bsl, stP_some, ro_ptr, got_excl, got_ptr, pubs, pubsFrom, List.map_cons, List.map_nil, List.getD_cons_zero, List.getD_cons_succ, List.length_cons, List.length_nil, List.replicate_succ, List.replicate_zero, List.cons_append, List.nil_append, Nat.reduceAdd, Nat.reduceLeDiff, Nat.reduceLT, and_true, Bool.false_eq_true, Option.map_some, ↓reduceIte, List.all_cons, List.all_nil, Bool.and_self, List.zip_cons_cons, List.zip_nil_right, rep, fillV, wrCells, List.flatten_cons, List.flatten_nil, List.append_nil, decide_true, Nat.mul_one, Nat.zero_add, st_bool, Nat.le_refl]
  refine callK_intro kB ?_
  simp (maxSteps := 2000000) (disch := first | omega | simp only [List.length_append, List.length_cons, List.length_nil, List.length_map] <;> omega) only [List.set_cons_zero, List.set_cons_succ, exc_int, exc_ptr, swp_seq, swp_reg, seqK_n, evK_some, appK_eq, appC_eq, srun_nil, srun_cons, stepK_call, sk_mv, get_mk, raw_slot, raw_lit, put_some, wb_nil, wb_cons, ev_mv, ro_ptr, got_int, got_ptr, pubs, pubsFrom, List.map_cons, List.map_nil, List.getD_cons_zero, List.getElem?_cons_zero, List.getElem?_cons_succ, Bool.false_eq_true, ↓reduceIte]
  refine callK_intro (kK _) ?_
  simp (maxSteps := 2000000) (disch := first | omega | simp only [List.length_append, List.length_cons, List.length_nil, List.length_map] <;> omega) only [hmk, stR_len, getR, gl1, gl2, sl2, setR, List.append_assoc, List.set_cons_zero, List.set_cons_succ, sk_storeO, ev_storeO_x, ro_slo, ev_lenO, apO_some, swp_seq, swp_reg, swp_block, seqK_n, evK_some, appK_eq, appC_eq, srun_nil, srun_cons, sk_mv, sk_fld, sk_load, sk_lenL, sk_mkS, get_mk, raw_slot, raw_lit, put_some, put_none, wb_nil, wb_cons, ev_mv, ev_fld, ev_ldP, ldP_some, ro_int, List.map_cons, List.map_nil, List.getD_cons_zero, List.getD_cons_succ, List.getElem?_cons_zero, List.getElem?_cons_succ, List.length_cons, List.length_nil, List.cons_append, List.nil_append, Nat.reduceAdd, Nat.reduceLT, Option.map_some, ↓reduceIte, Nat.zero_add, List.length_append]
  refine swp_lp (fun S => ∃ (i : Nat), i ≤ kn ∧ S = ⟨[.ptr rid 0, .undef, .ptr (st0.length + l.length) 0, .ptr (st0.length + (l.length + 1)) 0] ++ List.replicate 22 .undef ++ [.slo (st0.length + (l.length + 2)) 0 kn, .int .i64 kn, .int .i64 i] ++ List.replicate 11 .undef, stR st0 rid v (numsF MX i s4).2 ++ (l ++ [.cells [.str [], .bool false, .int .i64 0, .nilS, .int .i64 0, .int .i64 0, .int .i64 0], .cells [.str t, .bool (a == 1), .int .i64 x0, .slo (st0.length + (l.length + 2)) 0 kn, .int .i64 x1, .int .i64 x2, .int .i64 x3], .cells (isv ((numsF MX i s4).1 ++ List.replicate (kn - i) 0))])⟩)
      (fun S => match S.get 28 with | .int _ k => ((kn : Int) - k).toNat | _ => 0)
      ⟨[.ptr rid 0, .undef, .ptr (st0.length + l.length) 0, .ptr (st0.length + (l.length + 1)) 0] ++ List.replicate 22 .undef ++ [.slo (st0.length + (l.length + 2)) 0 kn, .int .i64 kn, .int .i64 (0 : Nat)] ++ List.replicate 11 .undef, stR st0 rid v (numsF MX 0 s4).2 ++ (l ++ [.cells [.str [], .bool false, .int .i64 0, .nilS, .int .i64 0, .int .i64 0, .int .i64 0], .cells [.str t, .bool (a == 1), .int .i64 x0, .slo (st0.length + (l.length + 2)) 0 kn, .int .i64 x1, .int .i64 x2, .int .i64 x3], .cells (isv ((numsF MX 0 s4).1 ++ List.replicate (kn - 0) 0))])⟩ ?_ ⟨0, Nat.zero_le _, rfl⟩ ?_
  · refine Forget.of ?_
    repeat first | exact fg_e | refine fg_d ?_ | refine fg_k rfl ?_
  rintro S ⟨i, hi, rfl⟩
  by_cases him : i = kn
  · have hd : decide ((i : Int) < (kn : Int)) = false := by rw [decide_eq_false_iff_not]; omega
    subst him
    have hd2 : i - i = 0 := Nat.sub_self _
    have s8 := st_aggR (st := st0) (rid := rid) (v := v) (s := (numsF MX i s4).2) (l := l ++ [.cells [.str [], .bool false, .int .i64 0, .nilS, .int .i64 0, .int .i64 0, .int .i64 0], .cells [.str t, .bool (a == 1), .int .i64 x0, .slo (st0.length + (l.length + 2)) 0 i, .int .i64 x1, .int .i64 x2, .int .i64 x3], .cells (isv (numsF MX i s4).1)]) (i := l.length) (n := 7) (b := true) (c := [.str [], .bool false, .int .i64 0, .nilS, .int .i64 0, .int .i64 0, .int .i64 0]) (xs := [.str t, .bool (a == 1), .int .i64 x0, .slo (st0.length + (l.length + 2)) 0 i, .int .i64 x1, .int .i64 x2, .int .i64 x3]) (gl4 _ _ _) rfl rfl rfl rfl
    rw [sl4] at s8
    simp (maxSteps := 2000000) (disch := first | omega | simp only [List.length_append, List.length_cons, List.length_nil, List.length_map] <;> omega) only [hd, hd2, s8, stR_len, getR, gl2, ev_ldA, List.drop_zero, List.take_succ_cons, List.take_zero, List.set_cons_zero, List.set_cons_succ, lpK_e, ro1_slo, apO_some, swp_seq, swp_reg, swp_ret, swp_exit, swp_cond, seqK_n, seqK_e, blkK_e, condK_f, evK_some, appK_eq, srun_nil, srun_cons, sk_bin, sk_load, sk_store, get_mk, raw_slot, put_some, put_none, wb_nil, bin_lss, ro_agg, ro1_int, ro1_str, ro1_bool, List.map_cons, List.map_nil, List.getD_cons_zero, List.getD_cons_succ, List.length_cons, List.length_nil, List.replicate_succ, List.replicate_zero, List.cons_append, List.nil_append, Nat.reduceAdd, ↓reduceIte, List.append_nil, Nat.zero_add, List.length_append, Nat.le_refl]
    refine ⟨_, _, retOf_cell (n := 7) (id := st0.length + l.length) (l := [.str t, .bool (a == 1), .int .i64 x0, .slo (st0.length + (l.length + 2)) 0 i, .int .i64 x1, .int .i64 x2, .int .i64 x3]) rfl (by rw [getR, gl4]) rfl rfl, .same, rfl, rfl⟩
  have hd : decide ((i : Int) < (kn : Int)) = true := by rw [decide_eq_true_eq]; omega
  have hil : i < kn := by omega
  have fin : ((kn : Int) - ((i + 1 : Nat) : Int)).toNat < ((kn : Int) - (i : Int)).toNat := by omega
  obtain ⟨hsi, hli, hxi⟩ := rdOk_nums (most := MX) i h4
  have hnext := numsF_snoc MX i s4
  obtain ⟨xs, si, eN⟩ : ∃ xs si, numsF MX i s4 = (xs, si) := ⟨_, _, rfl⟩
  rw [eN] at hsi hli hxi hnext ⊢
  simp only at hsi hli hxi hnext
  have kI := xInto (st0 := st0) (l := l ++ [.cells [.str [], .bool false, .int .i64 0, .nilS, .int .i64 0, .int .i64 0, .int .i64 0], .cells [.str t, .bool (a == 1), .int .i64 x0, .slo (st0.length + (l.length + 2)) 0 kn, .int .i64 x1, .int .i64 x2, .int .i64 x3], .cells (isv (xs ++ List.replicate (kn - i) 0))]) (j := l.length + 2) [i] hr hsi (gl3 _ _ _) (by simp [isv]; omega) (by simp)
  rw [show ([i] : List Nat).length = 1 from rfl, sl3] at kI
  simp only [setL, numsF, ptrs, List.map_cons, List.map_nil] at kI
  rw [repl_set hxi hil] at kI
  simp (maxSteps := 2000000) (disch := first | omega | simp only [List.length_append, List.length_cons, List.length_nil, List.length_map] <;> omega) only [hd, cell_p, stR_len, getR, gl2, cv_ptr, List.set_cons_zero, List.set_cons_succ, Int.toNat_natCast, pub_excl2, ro_slo, exc_int, exc_ptr, exc_excl, sk_idxB, idxB_O, swp_seq, swp_reg, swp_skip, swp_block, swp_cond, seqK_n, condK_t, evK_some, appK_eq, srun_nil, srun_cons, stepK_call, sk_mv, sk_take, sk_bin, sk_fld, sk_load, sk_bsl, get_mk, raw_slot, put_some, wb_nil, ev_mv, ev_take, ev_fld, bin_lss, ev_bsl, ev_ldP, ldP_some, ro_int, ro_ptr, got_excl, got_int, got_ptr, pubs, pubsFrom, List.map_cons, List.map_nil, List.getD_cons_zero, List.getD_cons_succ, List.getElem?_cons_zero, List.getElem?_cons_succ, List.length_cons, List.length_nil, List.replicate_succ, List.replicate_zero, List.cons_append, List.nil_append, Nat.reduceAdd, Nat.reduceLT, and_true, Bool.false_eq_true, Option.map_some, ↓reduceIte, List.all_cons, List.all_nil, Bool.and_self, List.zip_cons_cons, List.zip_nil_right, rep, fillV, wrCells, List.flatten_cons, List.flatten_nil, List.append_nil, decide_true, Nat.mul_one, Nat.zero_add, List.length_append, Nat.le_refl]
  refine callK_intro kI ?_
  simp (maxSteps := 2000000) (disch := first | omega | simp only [List.length_append, List.length_cons, List.length_nil, List.length_map] <;> omega) only [List.append_assoc, List.set_cons_zero, List.set_cons_succ, lpK_n, swp_reg, seqK_n, blkK_n, evK_some, appK_eq, appC_eq, srun_nil, srun_cons, sk_mv, sk_bin, get_mk, raw_slot, raw_lit, put_some, wb_nil, wb_cons, ev_mv, bin_add, ro_int, List.map_cons, List.map_nil, List.getD_cons_zero, List.getD_cons_succ, List.getElem?_cons_zero, List.getElem?_cons_succ, List.cons_append, List.nil_append, wrap_i64]
  refine ⟨_, ?_, ⟨i + 1, by omega, rfl⟩, by exact fin⟩
  rw [hnext]
  simp only [List.append_assoc, List.cons_append, List.nil_append]
  refine Forget.of ?_
  repeat first | exact fg_e | refine fg_d ?_ | refine fg_k rfl ?_
end Go.Sh.F
