/-
  WireWrites, in the shadow machine.
-/
import Derived.Test.YtfiigeiajhecoaaT17
set_option linter.unusedSimpArgs false
set_option linter.unusedVariables false
namespace Go.Sh.F
theorem swp_bothI {O : Orc} {Q : Ex → S → Prop} {s : S} {a b : SC} (h : swp O a Q s) (k : swp O b Q s) : swp O (.both a b) Q s := ⟨h, k⟩
theorem swp_ttI {O : Orc} {Q : Ex → S → Prop} {s : S} : swp O .tt Q s := trivial
theorem swp_to {O : Orc} {Q : Ex → S → Prop} {s sF : S} {c : SC} (h : swp O c (fun e s' => e = .normal ∧ s' = sF) s) (k : Q .normal sF) : swp O c Q s :=
  swp_mono (fun e s' h => by obtain ⟨rfl, rfl⟩ := h; exact k) h
theorem bytesOf_bsv (l : List UInt8) : bytesOf (bsv l) = some l := by
  have h := b2s_bsv (st := []) (l := l) (n := l.length) (f := .ro)
  rw [if_pos rfl] at h
  have h2 : ev [] .b2s [.sl (bsv l) l.length .ro] = (if l.length = (bsv l).length then (bytesOf (bsv l)).map .str else none).map fun r => (r, [], []) := rfl
  rw [h2, if_pos (by simp [bsv])] at h
  cases hb : bytesOf (bsv l) with
  | none => rw [hb] at h; cases h
  | some x => rw [hb] at h; simp at h; rw [h]
theorem b2O_bsv {st : List Ob} {id n : Nat} {l : List UInt8} (h : st[id]? = some (.cells (bsv l))) (hn : n = l.length) : ev st .b2s [.slo id 0 n] = some (.str l, [], st) := by
  subst hn
  rw [ev_b2O, h, apO_some, if_pos (by simp [bsv]), List.drop_zero, List.take_of_length_le (by simp [bsv]), bytesOf_bsv]
  rfl
theorem slcL_mx {st : List Ob} {xs : List SV} {n es : Nat} {f : Fl} {k k' : IntKind} (h : xs.length = n * es) : ev st (.slcL es false true true) [.sl xs n f, .int k n, .int k' n] = some (.sl xs n .full, if exc (.sl xs n f) then [(0, pub (.sl xs n f))] else [], st) := by
  have e : (n : Int).toNat * es = xs.length := by rw [h]; simp
  simp [ev_slcL, slcV, intOfV, h, List.take_of_length_le]
theorem slcL_mx_excl {st : List Ob} {xs : List SV} {n es : Nat} {k k' : IntKind} (h : xs.length = n * es) : ev st (.slcL es false true true) [.sl xs n (.excl es), .int k n, .int k' n] = some (.sl xs n .full, [(0, .sl xs n (.own es))], st) := slcL_mx h
theorem slcL_mx_own {st : List Ob} {xs : List SV} {n es : Nat} {k k' : IntKind} (h : xs.length = n * es) : ev st (.slcL es false true true) [.sl xs n (.own es), .int k n, .int k' n] = some (.sl xs n .full, [], st) := slcL_mx h
section
variable {st : List Ob}
theorem x14 {v : SV} {A : List UInt8} {k : Nat} (hv : v = .sl (bsv A) k .ro ∨ v = .sl (bsv A) k .full) (n : Int) (hk : k = A.length) (hl : k ≤ 1099511627776) : O20 14 [v, .int .i64 n] st (.sl (bsv (A ++ be4 (clampN n))) (k + 4) (.excl 1)) st := by
  subst hk
  rcases hv with rfl | rfl
  · exact .inl (.inl (.inl (.inl (p13 ⟨rfl, _, A, n, .inr ⟨_, .inl rfl, rfl⟩, hl, rfl, rfl⟩))))
  · exact .inl (.inl (.inl (.inl (p13 ⟨rfl, _, A, n, .inr ⟨_, .inr rfl, rfl⟩, hl, rfl, rfl⟩))))
theorem x15 {A : List UInt8} {k : Nat} (s : List UInt8) (hk : k = A.length) (hl : k ≤ 549755813888) : O20 15 [.sl (bsv A) k .ro, .str s] st (.sl (bsv (A ++ strB s)) (k + (strB s).length) (.excl 1)) st :=
  .inl (.inl (.inl (.inl (w14 s hk hl))))
theorem x16 {A : List UInt8} {k : Nat} {u : SV} {rows : List (List UInt8)} (hu : rdS u rows) (hk : k = A.length) (hl : k ≤ 274877906944) : O20 16 [.sl (bsv A) k .ro, u] st (.sl (bsv (A ++ rowB rows)) (A ++ rowB rows).length (.excl 1)) st :=
  .inl (.inl (.inl (.inl (w15 hu hk hl))))
theorem x17 {v : SV} {A : List UInt8} (hv : rdv v A) (n : Int) (hl : A.length ≤ 1099511627776) : O20 17 [v, .int .i64 n] st (.sl (bsv (A ++ be4 (clampN n))) (A.length + 4) (.excl 1)) st :=
  .inl (.inl (.inl (.inr ⟨rfl, rfl, v, A, n, hv, hl, rfl, rfl⟩)))
theorem x18 {v : SV} {A : List UInt8} (hv : rdv v A) (s : List UInt8) (hl : A.length ≤ 549755813888) : O20 18 [v, .str s] st (.sl (bsv (A ++ strB s)) (A.length + (strB s).length) (.excl 1)) st :=
  .inl (.inl (.inr ⟨rfl, rfl, v, A, s, hv, hl, rfl, rfl⟩))
theorem x19 {v u : SV} {A : List UInt8} {rows : List (List UInt8)} (hv : rdv v A) (hu : rdS u rows) (hrl : rows.length ≤ 1099511627776) (hl : A.length ≤ 274877906944) : O20 19 [v, u] st (.sl (bsv (A ++ rowB rows)) (A ++ rowB rows).length (.excl 1)) st :=
  .inl (.inr ⟨rfl, rfl, v, u, A, rows, hv, hu, hrl, hl, rfl, rfl⟩)
theorem x20 (s : List UInt8) (n : Int) : O20 20 [.str s, .int .i64 n] st (.bool (decide ((s.length : Int) ≤ minI n 16384))) st :=
  .inl (.inl (.inl (.inl (.inl (o19 ⟨s, n, rfl, rfl, rfl⟩)))))
theorem x21 (s : List UInt8) (n : Int) : O20 21 [.str s, .int .i64 n] st (.bool (decide ((s.length : Int) ≤ minI n 16384))) st :=
  .inr ⟨rfl, s, n, rfl, rfl, rfl⟩
theorem xfew {u : SV} {rows : List (List UInt8)} (hu : rdS u rows) (hl : rows.length ≤ 1099511627776) (hs : ∀ i, sumL (rows.take i) ≤ 1099511627776) : O20 13 [u] st (.bool (decide (rows.length ≤ 300 ∧ sumL rows ≤ 20000))) st :=
  .inl (.inl (.inl (.inl (wfew hu hl hs))))
theorem x12 : O20 12 [] [] (.bool true) [] := .inl (.inl (.inl (.inl o11)))
end
set_option maxHeartbeats 4000000 in
theorem fWrites (v u : SV) (n : Int) (b s : List UInt8) (rows : List (List UInt8)) (hv : rdv v b) (hu : rdS u rows) (hbl : b.length ≤ 1099511627776) (hsl : s.length ≤ 1099511627776) (hrl : rows.length ≤ 1099511627776) (hsum : sumL rows ≤ 1099511627776) :
    swpF O20 sf3 [v, .int .i64 n, .str s, u] [] (fun r _ => r = .bool true) := by
  obtain ⟨hro', hgot', hexc', hflg', hla'⟩ := rdL_facts (f := fun x : UInt8 => .int .u8 x.toNat) hv
  obtain ⟨hro, hgot, hexc, hflg⟩ := rdS_facts hu
  have hfw := xfew (st := []) hu hrl (fun i => by have := sumL_take_le rows i; omega)
  simp (maxSteps := 2000000) (disch := first | omega | (simp only [List.length_append, List.length_cons, List.length_nil, List.length_map] <;> omega)) only [sf3, flg_bool, swp_seq, swp_reg, seqK_n, evK_some, appK_eq, srun_nil, srun_cons, stepK_call, swpF_eq, sk_give, raw_lit, put_some, wb_nil, ev_give, ro_bool, pubs, pubsFrom, List.map_cons, List.map_nil, List.set_cons_zero, List.set_cons_succ, List.length_cons, List.length_nil, List.replicate_succ, List.replicate_zero, List.cons_append, List.nil_append, Nat.reduceAdd, Nat.reduceSub, Bool.false_eq_true, ↓reduceIte, Nat.zero_add]
  refine callK_intro x12 ?_
  simp (maxSteps := 2000000) (disch := first | omega | (simp only [List.length_append, List.length_cons, List.length_nil, List.length_map] <;> omega)) only [hro, hgot, hexc, flg_bool, swp_seq, swp_reg, seqK_n, evK_some, appK_eq, appC_eq, srun_nil, srun_cons, stepK_call, sk_mv, sk_give, get_mk, raw_slot, put_some, wb_nil, ev_mv, ev_give, ro_bool, pubs, pubsFrom, List.map_cons, List.map_nil, List.getD_cons_zero, List.getD_cons_succ, List.set_cons_zero, List.set_cons_succ, Bool.false_eq_true, ↓reduceIte]
  refine callK_intro hfw ?_
  by_cases h1 : rows.length ≤ 300 ∧ sumL rows ≤ 20000
  case neg =>
    have d1 : decide (rows.length ≤ 300 ∧ sumL rows ≤ 20000) = false := by simpa using h1
    simp (maxSteps := 2000000) (disch := first | omega | (simp only [List.length_append, List.length_cons, List.length_nil, List.length_map] <;> omega)) only [d1, grd_t, ev_pick, flg_bool, swp_seq, swp_reg, swp_ret, swp_cond, seqK_n, seqK_r, condK_t, evK_some, appK_eq, appC_eq, grd_t, srun_nil, srun_cons, stepK_grd, fin_ret, sk_mv, sk_give, sk_pick, sk_un, get_mk, raw_slot, raw_lit, put_some, wb_nil, ev_mv, ev_give, ev_pick, ev_not, ro_bool, List.map_cons, List.map_nil, List.getD_cons_zero, List.getD_cons_succ, List.set_cons_zero, List.set_cons_succ, List.length_nil, and_true, Bool.false_eq_true, ↓reduceIte, reduceCtorEq, Bool.not_false]
    exact ⟨_, .same⟩
  have d1 : decide (rows.length ≤ 300 ∧ sumL rows ≤ 20000) = true := by simpa using h1
  by_cases h2 : b.length ≤ 1000
  case neg =>
    have d2 : decide ((1000 : Int) < (b.length : Int)) = true := by simp; omega
    simp (maxSteps := 2000000) (disch := first | omega | (simp only [List.length_append, List.length_cons, List.length_nil, List.length_map] <;> omega)) only [d1, d2, hgot', hexc', hla', grd_t, ev_pick, flg_bool, swp_seq, swp_reg, swp_ret, swp_cond, seqK_n, seqK_r, condK_t, evK_some, appK_eq, appC_eq, grd_t, srun_nil, srun_cons, stepK_grd, fin_ret, sk_mv, sk_take, sk_give, sk_pick, sk_bin, sk_un, sk_lenL, get_mk, raw_slot, raw_lit, put_some, wb_nil, ev_mv, ev_take, ev_give, ev_pick, ev_not, bin_gtr, ro_bool, List.map_cons, List.map_nil, List.getD_cons_zero, List.getD_cons_succ, List.set_cons_zero, List.set_cons_succ, List.length_nil, and_true, Bool.false_eq_true, ↓reduceIte, reduceCtorEq, Bool.not_true, gt_iff_lt]
    exact ⟨_, .same⟩
  have d2 : decide ((1000 : Int) < (b.length : Int)) = false := by simp; omega
  by_cases h3 : s.length ≤ 20000
  case neg =>
    have d3 : decide ((20000 : Int) < (s.length : Int)) = true := by simp; omega
    simp (maxSteps := 2000000) (disch := first | omega | (simp only [List.length_append, List.length_cons, List.length_nil, List.length_map] <;> omega)) only [d1, d2, d3, hgot', hexc', hla', grd_t, ev_pick, flg_bool, exc_str, swp_seq, swp_reg, swp_ret, swp_cond, seqK_n, seqK_r, condK_t, evK_some, appK_eq, appC_eq, grd_t, srun_nil, srun_cons, stepK_grd, fin_ret, sk_mv, sk_take, sk_give, sk_pick, sk_bin, sk_un, sk_lenS, sk_lenL, get_mk, raw_slot, raw_lit, put_some, wb_nil, ev_mv, ev_take, ev_give, ev_pick, ev_not, ev_lenS, bin_gtr, ro_bool, got_str, List.map_cons, List.map_nil, List.getD_cons_zero, List.getD_cons_succ, List.set_cons_zero, List.set_cons_succ, List.length_nil, and_true, Bool.false_eq_true, ↓reduceIte, Bool.not_true, gt_iff_lt]
    exact ⟨_, .same⟩
  have d3 : decide ((20000 : Int) < (s.length : Int)) = false := by simp; omega
  have l4 : (be4 (clampN n)).length = 4 := rfl
  have ls := strB_len s
  have lr := rowB_len rows
  obtain ⟨X, hX⟩ : ∃ X, X = b ++ be4 (clampN n) := ⟨_, rfl⟩
  obtain ⟨Y, hY⟩ : ∃ Y, Y = b ++ strB s := ⟨_, rfl⟩
  obtain ⟨Z, hZ⟩ : ∃ Z, Z = b ++ rowB rows := ⟨_, rfl⟩
  have lX : X.length = b.length + 4 := by rw [hX, List.length_append, l4]
  have lY : Y.length = b.length + (strB s).length := by rw [hY, List.length_append]
  have lZ : Z.length = b.length + (rowB rows).length := by rw [hZ, List.length_append]
  have c14 := x14 (st := []) (v := .sl (bsv b) b.length .full) (.inr rfl) n rfl (by omega)
  have c15 := x15 (st := []) (A := b) s rfl (by omega)
  have c16 := x16 (st := [.cells (bsv Y)]) (A := b) hu rfl (by omega)
  have c17 := x17 (st := [.cells (bsv Y), .cells (bsv Z)]) hv n hbl
  have c18 := x18 (st := [.cells (bsv Y), .cells (bsv Z)]) hv s (by omega)
  have c19 := x19 (st := [.cells (bsv Y), .cells (bsv Z)]) hv hu hrl (by omega)
  rw [← hX, ← lX] at c14 c17
  rw [← hY, ← lY] at c15 c18
  rw [← hZ] at c16 c19
  have bY : ev [.cells (bsv Y), .cells (bsv Z)] .b2s [.slo 0 0 Y.length] = some (.str Y, [], [.cells (bsv Y), .cells (bsv Z)]) := b2O_bsv rfl rfl
  have bZ : ev [.cells (bsv Y), .cells (bsv Z)] .b2s [.slo 1 0 Z.length] = some (.str Z, [], [.cells (bsv Y), .cells (bsv Z)]) := b2O_bsv rfl rfl
  have hxb : (bsv b).length = b.length := bsv_len b
  have happ : ev [] (.app 1 1 [.int .u8 0]) [.sl [] 0 (.excl 1), v] = some (.sl (bsv b) b.length (.excl 1), [(0, .undef)], []) := by
    rcases hv with ⟨rfl, rfl⟩ | rfl
    · exact app_excl_nil (by simp) (by omega) (by omega)
    · rw [app_excl (by simp) (by omega) (by omega) (by omega)]; simp
  have hb2 : ∀ st, ev st .b2s [v] = some (.str b, [], st) := by
    intro st
    rcases hv with ⟨rfl, rfl⟩ | rfl
    · exact ev_b2sN
    · rw [b2s_bsv, if_pos rfl]
  simp (maxSteps := 2000000) (disch := first | omega | (simp only [List.length_append, List.length_cons, List.length_nil, List.length_map] <;> omega)) only [d1, d2, d3, hro', hgot', hexc', hla', grd_t, ev_pick, happ, slcL_mx_excl, flg_bool, flg_excl, exc_int, exc_str, exc_full, swp_seq, swp_reg, swp_skip, swp_cond, seqK_n, condK_f, evK_some, appK_eq, appC_eq, grd_t, srun_nil, srun_cons, stepK_call, stepK_grd, sk_mv, sk_take, sk_give, sk_pick, sk_bin, sk_un, sk_lenS, sk_lenL, sk_slcL, sk_bsl, sk_app, get_mk, raw_slot, raw_lit, put_some, wb_nil, wb_cons, ev_mv, ev_take, ev_give, ev_pick, ev_not, ev_lenS, ev_lenL, bin_gtr, ev_bsl, ro_int, ro_bool, ro_excl, got_full, got_int, got_str, pubs, pubsFrom, List.map_cons, List.map_nil, List.getD_cons_zero, List.getD_cons_succ, List.set_cons_zero, List.set_cons_succ, List.getElem?_cons_zero, List.length_nil, List.replicate_zero, and_true, Bool.false_eq_true, Option.map_some, ↓reduceIte, List.all_nil, List.zip_nil_right, rep, fillV, List.flatten_nil, Nat.mul_one, Bool.not_true, gt_iff_lt]
  refine callK_intro c14 ?_
  simp (maxSteps := 2000000) (disch := first | omega | (simp only [List.length_append, List.length_cons, List.length_nil, List.length_map] <;> omega)) only [flg_excl, exc_str, exc_own, swp_seq, swp_reg, seqK_n, evK_some, appK_eq, appC_eq, srun_nil, srun_cons, stepK_call, sk_mv, sk_give, get_mk, raw_slot, put_some, wb_nil, wb_cons, ev_mv, ev_give, ro_str, ro_own, ro_excl, got_own, got_str, pubs, pubsFrom, List.map_cons, List.map_nil, List.getD_cons_zero, List.getD_cons_succ, List.set_cons_zero, List.set_cons_succ, List.getElem?_cons_zero, Bool.false_eq_true, ↓reduceIte]
  refine callK_intro c15 ?_
  simp (maxSteps := 2000000) (disch := first | omega | (simp only [List.length_append, List.length_cons, List.length_nil, List.length_map] <;> omega)) only [hro, hgot, hexc, sk_giveO, ev_giveO_x, exc_own, swp_seq, swp_reg, seqK_n, evK_some, appK_eq, appC_eq, srun_nil, srun_cons, stepK_call, sk_mv, get_mk, raw_slot, put_some, wb_nil, wb_cons, ev_mv, ro_own, got_own, pubs, pubsFrom, List.map_cons, List.map_nil, List.getD_cons_zero, List.getD_cons_succ, List.set_cons_zero, List.set_cons_succ, List.getElem?_cons_zero, List.length_nil, List.nil_append, Bool.false_eq_true, ↓reduceIte]
  refine callK_intro c16 ?_
  simp (maxSteps := 2000000) (disch := first | omega | (simp only [List.length_append, List.length_cons, List.length_nil, List.length_map] <;> omega)) only [hro', sk_giveO, ev_giveO_x, swp_seq, swp_reg, seqK_n, evK_some, appK_eq, appC_eq, srun_nil, srun_cons, sk_mv, get_mk, raw_slot, put_some, wb_nil, wb_cons, ev_mv, ro_int, ro_excl, List.map_cons, List.map_nil, List.getD_cons_zero, List.getD_cons_succ, List.set_cons_zero, List.set_cons_succ, List.getElem?_cons_zero, List.length_cons, List.length_nil, List.cons_append, List.nil_append, Nat.zero_add]
  have e1 : (X == X) = true := by simp
  have e2 : (Y == Y) = true := by simp
  have e3 : (Z == Z) = true := by simp
  apply swp_to
  · repeat' first
      | exact swp_ttI
      | refine swp_bothI ?_ ?_
      | refine callK_intro c17 ?_
      | refine callK_intro c18 ?_
      | refine callK_intro c19 ?_
      | exact ⟨rfl, rfl⟩
      | exact rfl
      | simp (maxSteps := 2000000) (disch := first | omega | (simp only [List.length_append, List.length_cons, List.length_nil, List.length_map] <;> omega)) only [e1, e2, e3, hro, hgot, hexc, hro', hgot', hexc', bY, bZ, b2s_bsv, grd_t, ev_pick, ro_slo, flg_bool, exc_int, exc_str, swp_seq, swp_reg, seqK_n, evK_some, appK_eq, appC_eq, grd_t, srun_nil, srun_cons, stepK_call, stepK_grd, sk_mv, sk_give, sk_pick, sk_bin, sk_b2s, get_mk, raw_slot, raw_lit, put_some, wb_nil, ev_mv, ev_give, ev_pick, bin_eqlS, ro_bool, ro_str, got_int, got_str, pubs, pubsFrom, List.map_cons, List.map_nil, List.getD_cons_zero, List.getD_cons_succ, List.set_cons_zero, List.set_cons_succ, true_and, Bool.false_eq_true, ↓reduceIte]
  simp (maxSteps := 2000000) (disch := first | omega | (simp only [List.length_append, List.length_cons, List.length_nil, List.length_map] <;> omega)) only [exc_int, swp_seq, swp_reg, swp_block, seqK_n, evK_some, appK_eq, srun_nil, srun_cons, sk_take, raw_lit, put_some, wb_nil, ev_take, got_int, List.map_cons, List.map_nil, List.set_cons_zero, List.set_cons_succ, Bool.false_eq_true, ↓reduceIte]
  refine swp_lp (fun S => ∃ (i : Nat) (ys : List SV), i ≤ Y.length ∧ ys.length = Y.length ∧
      S = ⟨[v, .int .i64 n, .str s, u, .undef, .undef, .undef, .undef, .undef, .bool true, .undef, .sl (bsv b) b.length (.own 1), .undef, .slo 0 0 Y.length, .undef, .bool true, .int .i64 i] ++ List.replicate 87 .undef, [.cells ys, .cells (bsv Z)]⟩)
      (fun S => match S.get 16 with | .int _ k => ((Y.length : Int) - k).toNat | _ => 0)
      ⟨[v, .int .i64 n, .str s, u, .undef, .undef, .undef, .undef, .undef, .bool true, .undef, .sl (bsv b) b.length (.own 1), .undef, .slo 0 0 Y.length, .undef, .bool true, .int .i64 0] ++ List.replicate 87 .undef, [.cells (bsv Y), .cells (bsv Z)]⟩ ?_ ⟨0, _, by omega, bsv_len Y, rfl⟩ ?_
  · refine Forget.of ?_
    repeat first | exact fg_e | refine fg_d ?_ | refine fg_k rfl ?_
  rintro S ⟨i, ys, hi, hyl, rfl⟩
  by_cases him : i = Y.length
  · subst him
    have hd : decide ((Y.length : Int) < (Y.length : Int)) = false := by simp
    have e0 : (b == b) = true := by simp
    have c20 := x20 (st := [.cells ys, .cells (bsv Z)]) s n
    have c21 := x21 (st := [.cells ys, .cells (bsv Z)]) s n
    generalize decide ((s.length : Int) ≤ minI n 16384) = q at *
    have e9 : (q == q) = true := by simp
    simp (maxSteps := 2000000) (disch := first | omega | (simp only [List.length_append, List.length_cons, List.length_nil, List.length_map] <;> omega)) only [hd, e0, hgot', hexc', hb2, b2s_bsv, grd_t, ev_pick, lpK_e, ro_slo, ev_lenO, exc_bool, exc_int, exc_str, exc_own, swp_seq, swp_reg, swp_exit, swp_cond, seqK_n, seqK_e, blkK_e, condK_f, evK_some, appK_eq, grd_t, srun_nil, srun_cons, stepK_call, stepK_grd, sk_mv, sk_take, sk_pick, sk_bin, sk_b2s, sk_lenL, get_mk, raw_slot, raw_lit, put_some, wb_nil, ev_mv, ev_take, ev_pick, bin_lss, bin_eqlS, ro_int, ro_bool, got_own, got_int, got_bool, got_str, pubs, pubsFrom, List.map_cons, List.map_nil, List.getD_cons_zero, List.getD_cons_succ, List.set_cons_zero, List.set_cons_succ, List.length_cons, List.length_nil, List.replicate_succ, List.replicate_zero, List.cons_append, List.nil_append, Nat.reduceAdd, Bool.false_eq_true, ↓reduceIte, Nat.zero_add]
    refine callK_intro c20 ?_
    simp (maxSteps := 2000000) (disch := first | omega | (simp only [List.length_append, List.length_cons, List.length_nil, List.length_map] <;> omega)) only [grd_t, exc_int, exc_str, evK_some, appK_eq, appC_eq, grd_t, srun_cons, stepK_call, stepK_grd, sk_take, get_mk, raw_slot, put_some, wb_nil, ev_take, got_int, got_str, pubs, pubsFrom, List.map_cons, List.map_nil, List.getD_cons_zero, List.getD_cons_succ, List.set_cons_zero, List.set_cons_succ, Bool.false_eq_true, ↓reduceIte]
    refine callK_intro c21 ?_
    simp (maxSteps := 2000000) (disch := first | omega | (simp only [List.length_append, List.length_cons, List.length_nil, List.length_map] <;> omega)) only [e9, grd_t, ev_pick, flg_bool, swp_ret, seqK_n, evK_some, appK_eq, appC_eq, grd_t, srun_nil, srun_cons, stepK_grd, fin_ret, sk_give, sk_pick, sk_eqB, get_mk, raw_slot, raw_lit, put_some, wb_nil, ev_give, ev_pick, ev_eqB, ro_bool, List.map_cons, List.map_nil, List.getD_cons_zero, List.getD_cons_succ, List.set_cons_zero, List.set_cons_succ, List.length_nil, and_true, Bool.false_eq_true, ↓reduceIte]
    exact ⟨[], .inr ⟨by simp, by simp, rfl, rfl⟩⟩
  · have hd : decide ((i : Int) < (Y.length : Int)) = true := by simp; omega
    have hil : i < Y.length := by omega
    have hyi : i < ys.length := by omega
    simp (maxSteps := 2000000) (disch := first | omega | (simp only [List.length_append, List.length_cons, List.length_nil, List.length_map] <;> omega)) only [hd, hyl, hil, lpK_n, Int.toNat_natCast, ro_slo, ev_lenO, flg_int, sk_idxB, idxB_O, swp_seq, swp_reg, swp_skip, swp_block, swp_cond, seqK_n, blkK_n, condK_t, evK_some, appK_eq, srun_nil, srun_cons, sk_mv, sk_give, sk_bin, sk_store, sk_lenL, get_mk, raw_slot, raw_lit, put_some, put_none, wb_nil, ev_mv, ev_give, bin_add, bin_lss, stP_some, ro_int, List.map_cons, List.map_nil, List.getD_cons_zero, List.getD_cons_succ, List.set_cons_zero, List.set_cons_succ, List.getElem?_cons_zero, List.length_cons, List.length_nil, List.replicate_succ, List.replicate_zero, List.cons_append, List.nil_append, Nat.reduceAdd, Bool.false_eq_true, ↓reduceIte, Nat.mul_one, Nat.zero_add, st_int, wrap_i64]
    refine ⟨_, ?_, ⟨i + 1, ys.set i (.int .u8 9), by omega, by simp [hyl], rfl⟩, ?_⟩
    · refine Forget.of ?_
      repeat first | exact fg_e | refine fg_d ?_ | refine fg_k rfl ?_
    · show ((Y.length : Int) - ((i + 1 : Nat) : Int)).toNat < ((Y.length : Int) - (i : Int)).toNat
      omega
end Go.Sh.F
