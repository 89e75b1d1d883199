/-
  WireBack, in the shadow machine.
-/
import Derived.Test.YtnlipgehmehmgaaT12
set_option linter.unusedSimpArgs false
set_option linter.unusedVariables false
namespace Go.Sh.F
/-! Calls, from within the laws. -/
section
variable {st : List Ob}
theorem w13n (n : Int) : O16 13 [.nilS, .int .i64 n] st (.sl (bsv (be4 (clampN n))) 4 (.excl 1)) st := p13 ⟨rfl, .nilS, [], n, .inl ⟨rfl, rfl⟩, by simp, rfl, rfl⟩
theorem w13 {A : List UInt8} {k : Nat} (n : Int) (hk : k = A.length) (hl : k ≤ 1099511627776) : O16 13 [.sl (bsv A) k .ro, .int .i64 n] st (.sl (bsv (A ++ be4 (clampN n))) (k + 4) (.excl 1)) st := by
  subst hk; exact p13 ⟨rfl, _, A, n, .inr ⟨_, .inl rfl, rfl⟩, hl, rfl, rfl⟩
theorem w14n (s : List UInt8) : O16 14 [.nilS, .str s] st (.sl (bsv (strB s)) (strB s).length (.excl 1)) st := by
  refine .inl (o14 ⟨rfl, .nilS, [], s, .inl ⟨rfl, rfl⟩, by simp, rfl, ?_⟩)
  simp
theorem w14 {A : List UInt8} {k : Nat} (s : List UInt8) (hk : k = A.length) (hl : k ≤ 549755813888) : O16 14 [.sl (bsv A) k .ro, .str s] st (.sl (bsv (A ++ strB s)) (k + (strB s).length) (.excl 1)) st := by
  subst hk; exact .inl (o14 ⟨rfl, _, A, s, .inr ⟨_, .inl rfl, rfl⟩, hl, rfl, rfl⟩)
theorem w15n {u : SV} {rows : List (List UInt8)} (hu : rdS u rows) : O16 15 [.nilS, u] st (.sl (bsv (rowB rows)) (rowB rows).length (.excl 1)) st :=
  .inl (o15 ⟨rfl, _, u, [], rows, .inl ⟨rfl, rfl⟩, hu, by simp, rfl, rfl⟩)
theorem w15 {A : List UInt8} {k : Nat} {u : SV} {rows : List (List UInt8)} (hu : rdS u rows) (hk : k = A.length) (hl : k ≤ 274877906944) : O16 15 [.sl (bsv A) k .ro, u] st (.sl (bsv (A ++ rowB rows)) (A ++ rowB rows).length (.excl 1)) st := by
  subst hk; exact .inl (o15 ⟨rfl, _, u, A, rows, .inr rfl, hu, hl, rfl, rfl⟩)
theorem w21 {A : List UInt8} {k : Nat} (hk : k = A.length) (hl : k ≤ 1099511627776) : O16 21 [.sl (bsv A) k .ro] st (.ptr st.length 0) (st ++ [mR A 0 0]) := by
  subst hk; exact .inl (o21 ⟨_, A, .inr ⟨_, .inl rfl, rfl⟩, hl, rfl, rfl, rfl⟩)
theorem wfew {u : SV} {rows : List (List UInt8)} (hu : rdS u rows) (hl : rows.length ≤ 1099511627776) (hs : ∀ i, sumL (rows.take i) ≤ 1099511627776) : O16 12 [u] st (.bool (decide (rows.length ≤ 300 ∧ sumL rows ≤ 20000))) st :=
  .inl (o12 ⟨rfl, u, rows, hu, hl, hs, rfl, rfl⟩)
theorem w26 {u v : SV} {a b : List (List UInt8)} (hu : rdS u a) (hv : rdS v b) (hl : a.length ≤ 1099511627776) : O16 26 [u, v] st (.bool (decide (a = b))) st := .inl (o26 ⟨rfl, u, v, a, b, hu, hv, hl, rfl, rfl⟩)
end
theorem sumL_take_le (rows : List (List UInt8)) (i : Nat) : sumL (rows.take i) ≤ sumL rows := by
  have h : sumL rows = sumL (rows.take i) + sumL (rows.drop i) := by
    unfold sumL
    rw [← List.sum_append, ← List.map_append, List.take_append_drop]
  omega
theorem rowB_len (rows : List (List UInt8)) : (rowB rows).length ≤ 4195332 := by
  rw [rowB_eq]
  have := flat_len (rows.take 256)
  have h : (rows.take 256).length ≤ 256 := by simp; omega
  have h4 : ∀ k, (be4 k).length = 4 := fun _ => rfl
  simp only [List.length_append, h4]
  omega
theorem num1 {l : List UInt8} {p k : Nat} {R : List UInt8} {most : Int} (h : l.drop p = be4 k ++ R) (hk : k ≤ 4294967295) (hm : (k : Int) ≤ most) (hp : p ≤ l.length) :
    numF ⟨l, p, 0⟩ most = ((k : Int), (⟨l, p + 4, 0⟩ : RdS)) ∧ l.drop (p + 4) = R ∧ p + 4 ≤ l.length := by
  obtain ⟨h1, h2⟩ := numC (Z := []) (by rw [List.append_nil]; exact h) hk hm hp
  have hl : (l.drop p).length = l.length - p := List.length_drop
  have h4 : 4 ≤ (l.drop p).length := by rw [h]; simp [be4]
  rw [if_pos h4] at h1
  exact ⟨h1, by simpa using h2 h4, by omega⟩
theorem text1 {l : List UInt8} {p : Nat} {s R : List UInt8} {most : Int} (h : l.drop p = strB s ++ R) (hs : s.length ≤ 16384) (hm : (s.length : Int) ≤ most) (hp : p ≤ l.length) :
    textF ⟨l, p, 0⟩ most = (s, (⟨l, p + (strB s).length, 0⟩ : RdS)) ∧ l.drop (p + (strB s).length) = R ∧ p + (strB s).length ≤ l.length := by
  have ht : s.take 16384 = s := List.take_of_length_le hs
  obtain ⟨h1, h2⟩ := textC (Z := []) (most := most) (by rw [List.append_nil]; exact h) (by rw [ht]; exact hm) hp
  have hl : (l.drop p).length = l.length - p := List.length_drop
  have h4 : (strB s).length ≤ (l.drop p).length := by rw [h]; simp
  rw [if_pos h4, ht] at h1
  exact ⟨h1, by simpa using h2 h4, by omega⟩
theorem row1 {l : List UInt8} {p : Nat} {rows : List (List UInt8)} {R : List UInt8} {most each : Int} (h : l.drop p = rowB rows ++ R) (hr : rows.length ≤ 256) (hs : ∀ x ∈ rows, x.length ≤ 16384 ∧ (x.length : Int) ≤ each) (hm : (rows.length : Int) ≤ most) (hp : p ≤ l.length) :
    rowF ⟨l, p, 0⟩ most each = (rows, (⟨l, p + (rowB rows).length, 0⟩ : RdS)) ∧ l.drop (p + (rowB rows).length) = R ∧ p + (rowB rows).length ≤ l.length := by
  have ht : rows.take 256 = rows := List.take_of_length_le hr
  have ht2 : ∀ x ∈ rows, x.take 16384 = x := fun x hx => List.take_of_length_le (hs x hx).1
  obtain ⟨h1, h2⟩ := rowC (Z := []) (most := most) (each := each) (by rw [List.append_nil]; exact h) (fun x hx => by rw [ht2 x hx]; exact (hs x hx).2) (by rw [ht]; exact hm) hp
  have hl : (l.drop p).length = l.length - p := List.length_drop
  have h4 : (rowB rows).length ≤ (l.drop p).length := by rw [h]; simp
  have hmap : rows.map (List.take 16384) = rows := by
    conv => rhs; rw [← List.map_id rows]
    exact List.map_congr_left ht2
  rw [if_pos h4, ht, hmap] at h1
  exact ⟨h1, by simpa using h2 h4, by omega⟩
theorem back_ok {n m : Nat} {s : List UInt8} {rows : List (List UInt8)} (hn : n ≤ 4294967295) (hm : m ≤ 4294967295) (hs : s.length ≤ 16384) (hr : rows.length ≤ 256) (hx : ∀ x ∈ rows, x.length ≤ 16384) {B : List UInt8} (hB : B = ((be4 n ++ strB s) ++ rowB rows) ++ be4 m) :
    ∃ p2 p3 p4 : Nat, numF ⟨B, 0, 0⟩ n = ((n : Int), ⟨B, 4, 0⟩) ∧ textF ⟨B, 4, 0⟩ s.length = (s, ⟨B, p2, 0⟩) ∧ rowF ⟨B, p2, 0⟩ rows.length 16384 = (rows, ⟨B, p3, 0⟩) ∧ numF ⟨B, p3, 0⟩ m = ((m : Int), ⟨B, p4, 0⟩) ∧ endF ⟨B, p4, 0⟩ = ⟨B, p4, 0⟩ ∧ 4 ≤ B.length ∧ p2 ≤ B.length ∧ p3 ≤ B.length ∧ p4 ≤ B.length := by
  have h0 : B.drop 0 = be4 n ++ (strB s ++ (rowB rows ++ (be4 m ++ []))) := by rw [hB]; simp
  obtain ⟨a1, a2, a3⟩ := num1 (most := n) h0 hn (by omega) (by omega)
  obtain ⟨b1, b2, b3⟩ := text1 (most := s.length) a2 hs (by omega) a3
  obtain ⟨c1, c2, c3⟩ := row1 (most := rows.length) (each := 16384) b2 hr (fun x h => ⟨hx x h, by have := hx x h; omega⟩) (by omega) b3
  obtain ⟨d1, d2, d3⟩ := num1 (most := m) c2 hm (by omega) c3
  refine ⟨_, _, _, a1, b1, c1, d1, ?_, a3, b3, c3, d3⟩
  unfold endF
  have := congrArg List.length d2
  rw [List.length_drop] at this
  simp only [List.length_nil] at this
  rw [if_neg (fun h => by simp only at h; omega)]
set_option maxHeartbeats 4000000 in
theorem f5 (n m : Int) (s : List UInt8) (u : SV) (rows : List (List UInt8)) (hu : rdS u rows) (hsl : s.length ≤ 1099511627776) (hrl : rows.length ≤ 1099511627776) (hsum : sumL rows ≤ 1099511627776) :
    swpF O16 sf5 [.int .i64 n, .str s, u, .int .i64 m] [] (fun r _ => r = .bool true) := by
  obtain ⟨hro, hgot, hexc, hflg⟩ := rdS_facts hu
  have hla : ∀ st, ev st .lenL [u] = some (.int .i64 rows.length, [], st) := by
    intro st
    rcases hu with ⟨rfl, rfl⟩ | rfl
    · exact ev_lenN
    · exact ev_lenL
  have hfw := wfew (st := []) hu hrl (fun i => by have := sumL_take_le rows i; omega)
  simp (maxSteps := 2000000) (disch := first | omega | (simp only [List.length_append, List.length_cons, List.length_nil, List.length_map] <;> omega)) only [sf5, flg_bool, swp_seq, swp_reg, seqK_n, evK_some, appK_eq, srun_nil, srun_cons, stepK_call, swpF_eq, sk_give, raw_lit, put_some, wb_nil, ev_give, ro_bool, pubs, pubsFrom, List.map_cons, List.map_nil, List.set_cons_zero, List.set_cons_succ, List.length_cons, List.length_nil, List.replicate_succ, List.replicate_zero, List.cons_append, List.nil_append, Nat.reduceAdd, Nat.reduceSub, Bool.false_eq_true, ↓reduceIte, Nat.zero_add]
  refine callK_intro o11 ?_
  simp (maxSteps := 2000000) (disch := first | omega | (simp only [List.length_append, List.length_cons, List.length_nil, List.length_map] <;> omega)) only [hro, hgot, hexc, flg_bool, swp_seq, swp_reg, seqK_n, evK_some, appK_eq, appC_eq, srun_nil, srun_cons, stepK_call, sk_mv, sk_give, get_mk, raw_slot, put_some, wb_nil, ev_mv, ev_give, ro_bool, pubs, pubsFrom, List.map_cons, List.map_nil, List.getD_cons_zero, List.getD_cons_succ, List.set_cons_zero, List.set_cons_succ, Bool.false_eq_true, ↓reduceIte]
  refine callK_intro hfw ?_
  by_cases h1 : rows.length ≤ 300 ∧ sumL rows ≤ 20000
  case neg =>
    have d1 : decide (rows.length ≤ 300 ∧ sumL rows ≤ 20000) = false := by simpa using h1
    simp (maxSteps := 2000000) (disch := first | omega | (simp only [List.length_append, List.length_cons, List.length_nil, List.length_map] <;> omega)) only [d1, grd_t, ev_pick, flg_bool, swp_seq, swp_reg, swp_ret, swp_cond, seqK_n, seqK_r, condK_t, evK_some, appK_eq, appC_eq, grd_t, srun_nil, srun_cons, stepK_grd, fin_ret, sk_mv, sk_give, sk_pick, sk_un, get_mk, raw_slot, raw_lit, put_some, wb_nil, ev_mv, ev_give, ev_pick, ev_not, ro_bool, List.map_cons, List.map_nil, List.getD_cons_zero, List.getD_cons_succ, List.set_cons_zero, List.set_cons_succ, List.length_nil, and_true, Bool.false_eq_true, ↓reduceIte, reduceCtorEq, Bool.not_false]
    exact ⟨_, .same⟩
  have d1 : decide (rows.length ≤ 300 ∧ sumL rows ≤ 20000) = true := by simpa using h1
  by_cases h2 : s.length ≤ 16384
  case neg =>
    have d2 : decide ((16384 : Int) < (s.length : Int)) = true := by simp; omega
    simp (maxSteps := 2000000) (disch := first | omega | (simp only [List.length_append, List.length_cons, List.length_nil, List.length_map] <;> omega)) only [d1, d2, grd_t, ev_pick, flg_bool, exc_str, swp_seq, swp_reg, swp_ret, swp_cond, seqK_n, seqK_r, condK_t, evK_some, appK_eq, appC_eq, grd_t, srun_nil, srun_cons, stepK_grd, fin_ret, sk_mv, sk_take, sk_give, sk_pick, sk_bin, sk_un, sk_lenS, get_mk, raw_slot, raw_lit, put_some, wb_nil, ev_mv, ev_take, ev_give, ev_pick, ev_not, ev_lenS, bin_gtr, ro_bool, got_str, List.map_cons, List.map_nil, List.getD_cons_zero, List.getD_cons_succ, List.set_cons_zero, List.set_cons_succ, List.length_nil, and_true, Bool.false_eq_true, ↓reduceIte, reduceCtorEq, Bool.not_true, gt_iff_lt]
    exact ⟨_, .same⟩
  have d2 : decide ((16384 : Int) < (s.length : Int)) = false := by simp; omega
  by_cases h3 : rows.length ≤ 256
  case neg =>
    have d3 : decide ((256 : Int) < (rows.length : Int)) = true := by simp; omega
    simp (maxSteps := 2000000) (disch := first | omega | (simp only [List.length_append, List.length_cons, List.length_nil, List.length_map] <;> omega)) only [d1, d2, d3, hgot, hexc, hla, grd_t, ev_pick, flg_bool, exc_str, swp_seq, swp_reg, swp_ret, swp_cond, seqK_n, seqK_r, condK_t, evK_some, appK_eq, appC_eq, grd_t, srun_nil, srun_cons, stepK_grd, fin_ret, sk_mv, sk_take, sk_give, sk_pick, sk_bin, sk_un, sk_lenS, sk_lenL, get_mk, raw_slot, raw_lit, put_some, wb_nil, ev_mv, ev_take, ev_give, ev_pick, ev_not, ev_lenS, bin_gtr, ro_bool, got_str, List.map_cons, List.map_nil, List.getD_cons_zero, List.getD_cons_succ, List.set_cons_zero, List.set_cons_succ, List.length_nil, and_true, Bool.false_eq_true, ↓reduceIte, reduceCtorEq, Bool.not_true, gt_iff_lt]
    exact ⟨_, .same⟩
  have d3 : decide ((256 : Int) < (rows.length : Int)) = false := by simp; omega
  by_cases h4 : n < 0
  case pos =>
    have d4 : decide (n < 0) = true := by simp; omega
    simp (maxSteps := 2000000) (disch := first | omega | (simp only [List.length_append, List.length_cons, List.length_nil, List.length_map] <;> omega)) only [d1, d2, d3, d4, hgot, hexc, hla, grd_t, ev_pick, flg_bool, exc_int, exc_str, swp_seq, swp_reg, swp_ret, swp_cond, seqK_n, seqK_r, condK_t, evK_some, appK_eq, appC_eq, grd_t, srun_nil, srun_cons, stepK_grd, fin_ret, sk_mv, sk_take, sk_give, sk_pick, sk_bin, sk_un, sk_lenS, sk_lenL, get_mk, raw_slot, raw_lit, put_some, wb_nil, ev_mv, ev_take, ev_give, ev_pick, ev_not, ev_lenS, bin_lss, bin_gtr, ro_bool, got_int, got_str, List.map_cons, List.map_nil, List.getD_cons_zero, List.getD_cons_succ, List.set_cons_zero, List.set_cons_succ, List.length_nil, and_true, Bool.false_eq_true, ↓reduceIte, reduceCtorEq, Bool.not_true, gt_iff_lt]
    exact ⟨_, .same⟩
  have d4 : decide (n < 0) = false := by simp; omega
  by_cases h5 : m < 0
  case pos =>
    have d5 : decide (m < 0) = true := by simp; omega
    simp (maxSteps := 2000000) (disch := first | omega | (simp only [List.length_append, List.length_cons, List.length_nil, List.length_map] <;> omega)) only [d1, d2, d3, d4, d5, hgot, hexc, hla, grd_t, ev_pick, flg_bool, exc_int, exc_str, swp_seq, swp_reg, swp_ret, swp_cond, seqK_n, seqK_r, condK_t, evK_some, appK_eq, appC_eq, grd_t, srun_nil, srun_cons, stepK_grd, fin_ret, sk_mv, sk_take, sk_give, sk_pick, sk_bin, sk_un, sk_lenS, sk_lenL, get_mk, raw_slot, raw_lit, put_some, wb_nil, ev_mv, ev_take, ev_give, ev_pick, ev_not, ev_lenS, bin_lss, bin_gtr, ro_bool, got_int, got_str, List.map_cons, List.map_nil, List.getD_cons_zero, List.getD_cons_succ, List.set_cons_zero, List.set_cons_succ, List.length_nil, and_true, Bool.false_eq_true, ↓reduceIte, reduceCtorEq, Bool.not_true, gt_iff_lt]
    exact ⟨_, .same⟩
  have d5 : decide (m < 0) = false := by simp; omega
  by_cases h6 : n ≤ 4294967295
  case neg =>
    have d6 : decide (4294967295 < n) = true := by simp; omega
    simp (maxSteps := 2000000) (disch := first | omega | (simp only [List.length_append, List.length_cons, List.length_nil, List.length_map] <;> omega)) only [d1, d2, d3, d4, d5, d6, hgot, hexc, hla, grd_t, ev_pick, flg_bool, exc_int, exc_str, swp_seq, swp_reg, swp_ret, swp_cond, seqK_n, seqK_r, condK_t, evK_some, appK_eq, appC_eq, grd_t, srun_nil, srun_cons, stepK_grd, fin_ret, sk_mv, sk_take, sk_give, sk_pick, sk_bin, sk_un, sk_lenS, sk_lenL, get_mk, raw_slot, raw_lit, put_some, wb_nil, ev_mv, ev_take, ev_give, ev_pick, ev_not, ev_lenS, bin_lss, bin_gtr, ro_bool, got_int, got_str, List.map_cons, List.map_nil, List.getD_cons_zero, List.getD_cons_succ, List.set_cons_zero, List.set_cons_succ, List.length_nil, and_true, Bool.false_eq_true, ↓reduceIte, reduceCtorEq, Bool.not_true, gt_iff_lt]
    exact ⟨_, .same⟩
  have d6 : decide (4294967295 < n) = false := by simp; omega
  by_cases h7 : m ≤ 4294967295
  case neg =>
    have d7 : decide (4294967295 < m) = true := by simp; omega
    simp (maxSteps := 2000000) (disch := first | omega | (simp only [List.length_append, List.length_cons, List.length_nil, List.length_map] <;> omega)) only [d1, d2, d3, d4, d5, d6, d7, hgot, hexc, hla, grd_t, ev_pick, flg_bool, exc_int, exc_str, swp_seq, swp_reg, swp_ret, swp_cond, seqK_n, seqK_r, condK_t, evK_some, appK_eq, appC_eq, grd_t, srun_nil, srun_cons, stepK_grd, fin_ret, sk_mv, sk_take, sk_give, sk_pick, sk_bin, sk_un, sk_lenS, sk_lenL, get_mk, raw_slot, raw_lit, put_some, wb_nil, ev_mv, ev_take, ev_give, ev_pick, ev_not, ev_lenS, bin_lss, bin_gtr, ro_bool, got_int, got_str, List.map_cons, List.map_nil, List.getD_cons_zero, List.getD_cons_succ, List.set_cons_zero, List.set_cons_succ, List.length_nil, and_true, Bool.false_eq_true, ↓reduceIte, Bool.not_true, gt_iff_lt]
    exact ⟨_, .same⟩
  have d7 : decide (4294967295 < m) = false := by simp; omega
  simp (maxSteps := 2000000) (disch := first | omega | (simp only [List.length_append, List.length_cons, List.length_nil, List.length_map] <;> omega)) only [d1, d2, d3, d4, d5, d6, d7, hgot, hexc, hla, grd_t, ev_pick, flg_bool, exc_int, exc_str, swp_seq, swp_reg, swp_skip, swp_block, swp_cond, seqK_n, condK_f, evK_some, appK_eq, appC_eq, grd_t, srun_nil, srun_cons, stepK_grd, sk_mv, sk_take, sk_give, sk_pick, sk_bin, sk_un, sk_lenS, sk_lenL, get_mk, raw_slot, raw_lit, put_some, wb_nil, ev_mv, ev_take, ev_give, ev_pick, ev_not, ev_lenS, bin_lss, bin_gtr, ro_bool, got_int, got_str, List.map_cons, List.map_nil, List.getD_cons_zero, List.getD_cons_succ, List.set_cons_zero, List.set_cons_succ, Bool.false_eq_true, ↓reduceIte, Bool.not_true, gt_iff_lt]
  refine swp_lp (fun S => ∃ i : Nat, i ≤ rows.length ∧ (∀ x ∈ rows.take i, x.length ≤ 16384) ∧
      S = ⟨[.int .i64 n, .str s, u, .int .i64 m, .undef, .undef, .undef, .undef, .bool false, .bool true, .undef, .int .i64 i] ++ List.replicate 93 .undef, []⟩)
      (fun S => match S.get 11 with | .int _ k => ((rows.length : Int) - k).toNat | _ => 0)
      ⟨[.int .i64 n, .str s, u, .int .i64 m, .undef, .undef, .undef, .undef, .bool false, .bool true, .undef, .int .i64 0] ++ List.replicate 93 .undef, []⟩ ?_ ⟨0, by omega, by simp, rfl⟩ ?_
  · refine Forget.of ?_
    repeat first | exact fg_e | refine fg_d ?_ | refine fg_k rfl ?_
  rintro S ⟨i, hi, htk, rfl⟩
  by_cases him : i = rows.length
  case neg =>
    have hd : decide ((i : Int) < (rows.length : Int)) = true := by simp; omega
    have hia : i < rows.length := by omega
    have hga := ssv_at rows i (rows[i]) (List.getElem?_eq_getElem hia)
    have hva : u = .sl (ssv rows) rows.length .ro := by
      rcases hu with ⟨_, rfl⟩ | h
      · simp at hia
      · exact h
    have hsa := ssv_len rows
    clear hla hfw
    subst hva
    by_cases hx : rows[i].length ≤ 16384
    · have hxb : decide ((16384 : Int) < (rows[i].length : Int)) = false := by simp; omega
      simp (maxSteps := 2000000) (disch := first | omega | (simp only [List.length_append, List.length_cons, List.length_nil, List.length_map] <;> omega)) only [hd, hga, hxb, lpK_n, Int.toNat_natCast, flg_int, swp_seq, swp_reg, swp_skip, swp_block, swp_cond, seqK_n, blkK_n, condK_t, condK_f, evK_some, appK_eq, srun_nil, srun_cons, sk_mv, sk_give, sk_bin, sk_idxA, sk_load, sk_lenS, sk_lenL, get_mk, raw_slot, raw_lit, put_some, wb_nil, ev_mv, ev_give, ev_lenS, ev_lenL, bin_add, bin_lss, bin_gtr, ev_loadE, idxA_ro, ro_int, ro_str, ro_ro, List.map_cons, List.map_nil, List.getD_cons_zero, List.getD_cons_succ, List.set_cons_zero, List.set_cons_succ, List.length_nil, List.replicate_succ, List.replicate_zero, List.cons_append, List.nil_append, Bool.false_eq_true, Option.map_some, ↓reduceIte, Nat.mul_one, gt_iff_lt, wrap_i64]
      refine ⟨_, ?_, ⟨i + 1, by omega, ?_, rfl⟩, ?_⟩
      · refine Forget.of ?_
        repeat first | exact fg_e | refine fg_d ?_ | refine fg_k rfl ?_
      · rw [← List.take_append_getElem hia]
        intro x hxm
        rcases List.mem_append.1 hxm with h | h
        · exact htk x h
        · rw [List.mem_singleton.1 h]; exact hx
      · show ((rows.length : Int) - ((i + 1 : Nat) : Int)).toNat < ((rows.length : Int) - (i : Int)).toNat
        omega
    · have hxb : decide ((16384 : Int) < (rows[i].length : Int)) = true := by simp; omega
      simp (maxSteps := 2000000) (disch := first | omega | (simp only [List.length_append, List.length_cons, List.length_nil, List.length_map] <;> omega)) only [hd, hga, hxb, lpK_r, Int.toNat_natCast, flg_bool, swp_seq, swp_reg, swp_skip, swp_ret, swp_block, swp_cond, seqK_n, seqK_r, blkK_r, condK_t, evK_some, appK_eq, srun_nil, srun_cons, fin_ret, sk_mv, sk_give, sk_bin, sk_idxA, sk_load, sk_lenS, sk_lenL, get_mk, raw_slot, raw_lit, put_some, wb_nil, ev_mv, ev_give, ev_lenS, ev_lenL, bin_lss, bin_gtr, ev_loadE, idxA_ro, ro_int, ro_bool, ro_str, ro_ro, List.map_cons, List.map_nil, List.getD_cons_zero, List.getD_cons_succ, List.set_cons_zero, List.set_cons_succ, List.length_nil, List.replicate_succ, List.replicate_zero, List.cons_append, List.nil_append, and_true, Bool.false_eq_true, Option.map_some, ↓reduceIte, Nat.mul_one, gt_iff_lt]
      exact ⟨_, .same⟩
  subst him
  rw [List.take_length] at htk
  have hd : decide ((rows.length : Int) < (rows.length : Int)) = false := by simp
  have en : ((clampN n : Nat) : Int) = n := by unfold clampN; rw [if_neg h4]; split <;> omega
  have em : ((clampN m : Nat) : Int) = m := by unfold clampN; rw [if_neg h5]; split <;> omega
  have cn := clampN_le n
  have cm := clampN_le m
  have l4 : (be4 (clampN n)).length = 4 := rfl
  have ls := strB_len s
  have lr := rowB_len rows
  obtain ⟨A, hA⟩ : ∃ A, A = be4 (clampN n) := ⟨_, rfl⟩
  have c13 := w13n (st := []) n
  rw [← hA] at c13 l4
  have c14 := w14 (st := []) (k := 4) s l4.symm (by omega)
  have lA : (A ++ strB s).length = 4 + (strB s).length := by rw [List.length_append, l4]
  have c15 := w15 (st := []) (k := 4 + (strB s).length) hu lA.symm (by omega)
  obtain ⟨A2, hA2⟩ : ∃ A2, A2 = A ++ strB s ++ rowB rows := ⟨_, rfl⟩
  have lA2 : A2.length ≤ 10000000 := by rw [hA2, List.length_append, lA]; omega
  rw [← hA2] at c15
  have c13' := w13 (st := []) (A := A2) m rfl (by omega)
  obtain ⟨B, hB⟩ : ∃ B, B = A2 ++ be4 (clampN m) := ⟨_, rfl⟩
  have lB : B.length = A2.length + 4 := by rw [hB, List.length_append]; rfl
  rw [← hB] at c13'
  have c21 := w21 (st := []) (A := B) (k := A2.length + 4) lB.symm (by omega)
  obtain ⟨p2, p3, p4, b1, b2, b3, b4, b5, b6, b7, b8, b9⟩ := back_ok (n := clampN n) (m := clampN m) (s := s) (rows := rows) cn cm h2 h3 htk (B := B) (by rw [hB, hA2, hA])
  rw [en] at b1
  rw [em] at b4
  have bl : B.length ≤ 1099511627776 := by omega
  simp (maxSteps := 2000000) (disch := first | omega | (simp only [List.length_append, List.length_cons, List.length_nil, List.length_map] <;> omega)) only [hd, hro, hla, lpK_e, exc_int, exc_nilS, swp_seq, swp_reg, swp_exit, swp_cond, seqK_n, seqK_e, blkK_e, condK_f, evK_some, appK_eq, srun_nil, srun_cons, stepK_call, sk_mv, sk_bin, sk_lenL, get_mk, raw_slot, raw_lit, put_some, wb_nil, ev_mv, bin_lss, ro_int, got_int, got_nilS, pubs, pubsFrom, List.map_cons, List.map_nil, List.getD_cons_zero, List.getD_cons_succ, List.set_cons_zero, List.set_cons_succ, List.length_nil, List.replicate_succ, List.replicate_zero, List.cons_append, List.nil_append, Bool.false_eq_true, ↓reduceIte]
  refine callK_intro c13 ?_
  simp (maxSteps := 2000000) (disch := first | omega | (simp only [List.length_append, List.length_cons, List.length_nil, List.length_map] <;> omega)) only [exc_str, exc_excl, evK_some, appK_eq, appC_eq, srun_cons, stepK_call, sk_mv, get_mk, raw_slot, put_some, wb_nil, ev_mv, ro_str, got_excl, got_str, pub_excl, pubs, pubsFrom, List.map_cons, List.map_nil, List.getD_cons_zero, List.getD_cons_succ, List.set_cons_zero, List.set_cons_succ, Bool.false_eq_true, ↓reduceIte]
  refine callK_intro c14 ?_
  simp (maxSteps := 2000000) (disch := first | omega | (simp only [List.length_append, List.length_cons, List.length_nil, List.length_map] <;> omega)) only [hro, hgot, hexc, exc_excl, evK_some, appK_eq, appC_eq, srun_cons, stepK_call, sk_mv, get_mk, raw_slot, put_some, wb_nil, wb_cons, ev_mv, got_excl, pub_excl, pubs, pubsFrom, List.map_cons, List.map_nil, List.getD_cons_zero, List.getD_cons_succ, List.set_cons_zero, List.set_cons_succ, List.getElem?_cons_zero, Bool.false_eq_true, ↓reduceIte]
  refine callK_intro c15 ?_
  simp (maxSteps := 2000000) (disch := first | omega | (simp only [List.length_append, List.length_cons, List.length_nil, List.length_map] <;> omega)) only [exc_int, exc_excl, evK_some, appK_eq, appC_eq, srun_cons, stepK_call, sk_mv, get_mk, raw_slot, put_some, wb_nil, wb_cons, ev_mv, ro_int, got_excl, got_int, pub_excl, pubs, pubsFrom, List.map_cons, List.map_nil, List.getD_cons_zero, List.getD_cons_succ, List.set_cons_zero, List.set_cons_succ, List.getElem?_cons_zero, Bool.false_eq_true, ↓reduceIte]
  refine callK_intro c13' ?_
  simp (maxSteps := 2000000) (disch := first | omega | (simp only [List.length_append, List.length_cons, List.length_nil, List.length_map] <;> omega)) only [exc_excl, appC_eq, srun_cons, stepK_call, get_mk, raw_slot, put_some, wb_nil, wb_cons, got_excl, pub_excl, pubs, pubsFrom, List.map_cons, List.map_nil, List.getD_cons_zero, List.getD_cons_succ, List.set_cons_zero, List.set_cons_succ, List.getElem?_cons_zero, ↓reduceIte]
  refine callK_intro c21 ?_
  simp (maxSteps := 2000000) (disch := first | omega | (simp only [List.length_append, List.length_cons, List.length_nil, List.length_map] <;> omega)) only [grd_t, flg_ptr, exc_int, exc_ptr, swp_seq, swp_reg, swp_skip, swp_cond, seqK_n, condK_f, evK_some, appK_eq, appC_eq, grd_t, srun_nil, srun_cons, stepK_call, stepK_grd, sk_mv, sk_take, sk_give, sk_eqN, get_mk, raw_slot, raw_lit, put_some, wb_nil, wb_cons, ev_mv, ev_take, ev_give, ev_eqNp2, ro_bool, ro_ptr, got_int, got_ptr, pubs, pubsFrom, List.map_cons, List.map_nil, List.getD_cons_zero, List.getD_cons_succ, List.set_cons_zero, List.set_cons_succ, List.getElem?_cons_zero, List.length_nil, List.nil_append, Bool.false_eq_true, ↓reduceIte]
  refine callK_intro (.inl (rd22 (l := B) (p := 0) (p' := 4) (e := 0) (e' := 0) (n := n) bl (by omega) rfl b1 rfl)) ?_
  simp (maxSteps := 2000000) (disch := first | omega | (simp only [List.length_append, List.length_cons, List.length_nil, List.length_map] <;> omega)) only [grd_t, ev_pick, exc_int, exc_str, exc_ptr, evK_some, appK_eq, appC_eq, grd_t, srun_cons, stepK_call, stepK_grd, sk_mv, sk_take, sk_pick, sk_bin, sk_lenS, get_mk, raw_slot, raw_lit, put_some, wb_nil, ev_mv, ev_take, ev_pick, ev_lenS, bin_eql, ro_bool, got_int, got_str, got_ptr, pubs, pubsFrom, List.map_cons, List.map_nil, List.getD_cons_zero, List.getD_cons_succ, List.set_cons_zero, List.set_cons_succ, Bool.false_eq_true, ↓reduceIte, beq_self_eq_true, Int.cast_ofNat_Int]
  refine callK_intro (.inl (rd24 (l := B) (p := 4) (p' := p2) (e := 0) (e' := 0) bl b6 rfl b2 rfl)) ?_
  simp (maxSteps := 2000000) (disch := first | omega | (simp only [List.length_append, List.length_cons, List.length_nil, List.length_map] <;> omega)) only [hgot, hexc, hla, grd_t, ev_pick, exc_int, exc_str, exc_ptr, evK_some, appK_eq, appC_eq, grd_t, srun_cons, stepK_call, stepK_grd, sk_mv, sk_take, sk_pick, sk_bin, sk_lenL, get_mk, raw_slot, raw_lit, put_some, wb_nil, ev_mv, ev_take, ev_pick, bin_eqlS, ro_bool, got_int, got_str, got_ptr, pubs, pubsFrom, List.map_cons, List.map_nil, List.getD_cons_zero, List.getD_cons_succ, List.set_cons_zero, List.set_cons_succ, Bool.false_eq_true, ↓reduceIte, beq_self_eq_true]
  refine callK_intro (.inl (rd27 (l := B) (p := p2) (p' := p3) (e := 0) (e' := 0) bl b7 rfl b3 rfl)) ?_
  obtain ⟨gv, rv, hrv, hg1, hg2⟩ : ∃ gv rv, rowV rows = rv ∧ rdS gv rows ∧ ((rv = .nilS ∧ gv = .nilS) ∨ (rv = .sl (ssv rows) rows.length (.excl 1) ∧ gv = .sl (ssv rows) rows.length .ro)) := by
    by_cases hre : rows = []
    · exact ⟨.nilS, .nilS, by rw [rowV, if_pos hre], .inl ⟨rfl, hre⟩, .inl ⟨rfl, rfl⟩⟩
    · exact ⟨.sl (ssv rows) rows.length .ro, _, by rw [rowV, if_neg hre], .inr rfl, .inr ⟨rfl, rfl⟩⟩
  have c26 := w26 (st := [mR B p3 0]) hg1 hu hrl
  have d26 : decide (rows = rows) = true := by simp
  rcases hg2 with ⟨rfl, rfl⟩ | ⟨rfl, rfl⟩
  all_goals
    simp (maxSteps := 2000000) (disch := first | omega | (simp only [List.length_append, List.length_cons, List.length_nil, List.length_map] <;> omega)) only [hrv, hgot, hexc, grd_t, exc_nilS, exc_excl, evK_some, appK_eq, appC_eq, grd_t, srun_cons, stepK_call, stepK_grd, sk_take, get_mk, raw_slot, put_some, wb_nil, ev_take, got_excl, got_nilS, pub_excl, pubs, pubsFrom, List.map_cons, List.map_nil, List.getD_cons_zero, List.getD_cons_succ, List.set_cons_zero, List.set_cons_succ, Bool.false_eq_true, ↓reduceIte]
    refine callK_intro c26 ?_
    simp (maxSteps := 2000000) (disch := first | omega | (simp only [List.length_append, List.length_cons, List.length_nil, List.length_map] <;> omega)) only [grd_t, ev_pick, exc_int, exc_ptr, evK_some, appK_eq, appC_eq, grd_t, srun_cons, stepK_call, stepK_grd, sk_mv, sk_take, sk_pick, get_mk, raw_slot, raw_lit, put_some, wb_nil, wb_cons, ev_mv, ev_take, ev_pick, ro_bool, got_int, got_ptr, pubs, pubsFrom, List.map_cons, List.map_nil, List.getD_cons_zero, List.getD_cons_succ, List.set_cons_zero, List.set_cons_succ, List.getElem?_cons_zero, Bool.false_eq_true, ↓reduceIte, decide_true]
    refine callK_intro (.inl (rd22 (l := B) (p := p3) (p' := p4) (e := 0) (e' := 0) (n := m) bl b8 rfl b4 rfl)) ?_
    simp (maxSteps := 2000000) (disch := first | omega | (simp only [List.length_append, List.length_cons, List.length_nil, List.length_map] <;> omega)) only [grd_t, ev_pick, exc_int, exc_ptr, evK_some, appK_eq, appC_eq, grd_t, srun_cons, stepK_call, stepK_grd, sk_mv, sk_take, sk_pick, sk_bin, get_mk, raw_slot, raw_lit, put_some, wb_nil, ev_mv, ev_take, ev_pick, bin_eql, ro_bool, got_int, got_ptr, pubs, pubsFrom, List.map_cons, List.map_nil, List.getD_cons_zero, List.getD_cons_succ, List.set_cons_zero, List.set_cons_succ, Bool.false_eq_true, ↓reduceIte, beq_self_eq_true]
    refine callK_intro (.inl (rd29 (l := B) (p := p4) (p' := p4) (e := 0) (e' := 0) rfl b5 rfl)) ?_
    simp (maxSteps := 2000000) (disch := first | omega | (simp only [List.length_append, List.length_cons, List.length_nil, List.length_map] <;> omega)) only [grd_t, ev_pick, flg_bool, swp_ret, seqK_n, evK_some, appK_eq, appC_eq, grd_t, srun_nil, srun_cons, stepK_grd, fin_ret, sk_give, sk_pick, sk_bin, get_mk, raw_slot, raw_lit, put_some, wb_nil, ev_give, ev_pick, bin_eql, ro_bool, List.map_cons, List.map_nil, List.getD_cons_zero, List.getD_cons_succ, List.set_cons_zero, List.set_cons_succ, List.length_nil, and_true, Bool.false_eq_true, ↓reduceIte, beq_self_eq_true]
    exact ⟨[], .inr ⟨by simp, by simp, rfl, rfl⟩⟩
end Go.Sh.F
