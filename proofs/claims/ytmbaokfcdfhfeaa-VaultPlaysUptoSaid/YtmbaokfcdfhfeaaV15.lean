/-
  The document's vault, in the shadow machine: looking for a handle, a name, a size.
-/
import Derived.Test.YtmbaokfcdfhfeaaV11
set_option linter.unusedSimpArgs false
set_option linter.unusedVariables false
namespace Go.Sh.F
def fO (p : Int × Sd) : List SV := [.int .i64 p.1, .int .i64 p.2.1, .str p.2.2.1, .str p.2.2.2]
def fN (p : (Int × List UInt8) × Int) : List SV := [.int .i64 p.2, .int .i64 p.1.1, .str p.1.2]
theorem fO_len (l : List (Int × Sd)) : (l.flatMap fO).length = l.length * 4 := flatMap_len (f := fO) (n := 4) (fun _ => rfl) l
theorem fN_len (l : List ((Int × List UInt8) × Int)) : (l.flatMap fN).length = l.length * 3 := flatMap_len (f := fN) (n := 3) (fun _ => rfl) l
theorem fO_at {l : List (Int × Sd)} {i : Nat} (h : i < l.length) (j : Nat) (hj : j < 4) : (l.flatMap fO)[i * 4 + j]? = (fO l[i])[j]? := by
  rw [flatMap_at (n := 4) (by omega) (fun _ => rfl), show (i * 4 + j) / 4 = i by omega, show (i * 4 + j) % 4 = j by omega, List.getElem?_eq_getElem h]; rfl
theorem fN_at {l : List ((Int × List UInt8) × Int)} {i : Nat} (h : i < l.length) (j : Nat) (hj : j < 3) : (l.flatMap fN)[i * 3 + j]? = (fN l[i])[j]? := by
  rw [flatMap_at (n := 3) (by omega) (fun _ => rfl), show (i * 3 + j) / 3 = i by omega, show (i * 3 + j) % 3 = j by omega, List.getElem?_eq_getElem h]; rfl
/-- A list in a cell, that is appended to. -/
def ownV {α : Type} (f : α → List SV) (es : Nat) : List α → SV
  | [] => .nilS
  | x :: l => .sl ((x :: l).flatMap f) (x :: l).length (.own es)
def roV {α : Type} (f : α → List SV) : List α → SV
  | [] => .nilS
  | x :: l => .sl ((x :: l).flatMap f) (x :: l).length .ro
theorem ro_ownV {α : Type} {f : α → List SV} {es : Nat} {l : List α} : ro (ownV f es l) = roV f l := by cases l <;> rfl
theorem roV_rd {α : Type} {f : α → List SV} {l : List α} : rdR f (roV f l) l := by
  cases l with
  | nil => exact .inl ⟨rfl, rfl⟩
  | cons x l => exact .inr rfl
theorem roV_some {α : Type} {f : α → List SV} {l : List α} {i : Nat} (h : i < l.length) : roV f l = .sl (l.flatMap f) l.length .ro := by
  cases l with
  | nil => simp at h
  | cons x l => rfl
theorem ownV_some {α : Type} {f : α → List SV} {es : Nat} {l : List α} (h : l ≠ []) : ownV f es l = .sl (l.flatMap f) l.length (.own es) := by
  cases l with
  | nil => exact absurd rfl h
  | cons x l => rfl
/-- The document's vault. -/
def Yob (V : VS) : Ob := .cells [ownV fO 4 V.s, ownV fN 3 V.n]
theorem any_mget {α : Type} {x : Int} : ∀ {l : List (Int × α)}, (l.any fun p => p.1 == x) = (mget x l).isSome
  | [] => rfl
  | p :: l => by
    simp only [List.any_cons, mget]
    by_cases h : x = p.1
    · subst h; simp
    · rw [beq_eq_false_iff_ne.2 h, beq_eq_false_iff_ne.2 fun e => h e.symm, Bool.false_or]
      exact any_mget
set_option maxHeartbeats 1000000 in
theorem k27 (O : Orc) {st : List Ob} {y : Nat} {V : VS} (h : st[y]? = some (Yob V)) (hl : V.s.length ≤ 16384) (x : Int) : swpF O sf27 [.ptr y 0, .int .i64 x] st (fun r st' => r = .bool (V.s.any fun p => p.1 == x) ∧ st' = st) := by
  obtain ⟨lv, hlv⟩ : ∃ lv, lv = ownV fO 4 V.s := ⟨_, rfl⟩
  obtain ⟨nv, hnv⟩ : ∃ nv, nv = ownV fN 3 V.n := ⟨_, rfl⟩
  have h' : st[y]? = some (.cells [lv, nv]) := by rw [h, hlv, hnv]; rfl
  have hu : ro lv = roV fO V.s := by rw [hlv]; exact ro_ownV
  generalize V.s = L at *
  obtain ⟨hro, hgot, hexc, hflg, hla⟩ := rdR_facts (roV_rd (f := fO) (l := L))
  simp (maxSteps := 2000000) (disch := first | omega | (simp only [List.length_append, List.length_cons, List.length_nil, List.length_map] <;> omega)) only [sf27, flg_bool, exc_int, swp_seq, swp_reg, swp_block, seqK_n, evK_some, appK_eq, srun_nil, srun_cons, swpF_eq, sk_take, sk_give, raw_lit, put_some, wb_nil, ev_take, ev_give, ro_bool, got_int, List.map_cons, List.map_nil, List.set_cons_zero, List.set_cons_succ, List.length_cons, List.length_nil, List.replicate_succ, List.replicate_zero, List.cons_append, List.nil_append, Nat.reduceAdd, Nat.reduceSub, Bool.false_eq_true, ↓reduceIte, Nat.zero_add]
  refine swp_lp (fun S => ∃ (i : Nat), i ≤ L.length ∧ (L.drop i).any (fun p => p.1 == x) = L.any (fun p => p.1 == x) ∧
      S = ⟨[.ptr y 0, .int .i64 x, .undef, .undef, .bool false, .int .i64 i] ++ List.replicate 19 .undef, st⟩)
      (fun S => match S.get 5 with | .int _ k => ((L.length : Int) - k).toNat | _ => 0)
      ⟨[.ptr y 0, .int .i64 x, .undef, .undef, .bool false, .int .i64 0] ++ List.replicate 19 .undef, st⟩ ?_ ⟨0, by omega, rfl, rfl⟩ ?_
  · refine Forget.of ?_
    repeat first | exact fg_e | refine fg_d ?_ | refine fg_k rfl ?_
  rintro S ⟨i, hi, ha, rfl⟩
  by_cases him : i = L.length
  · subst him
    have hd : decide ((L.length : Int) < (L.length : Int)) = false := by simp
    rw [List.drop_length] at ha
    rw [← ha]
    simp (maxSteps := 2000000) (disch := first | omega | (simp only [List.length_append, List.length_cons, List.length_nil, List.length_map] <;> omega)) only [h', hu, hla, hd, List.any_nil, lpK_e, flg_bool, swp_seq, swp_reg, swp_ret, swp_exit, swp_cond, seqK_n, seqK_e, blkK_e, condK_f, evK_some, appK_eq, srun_nil, srun_cons, fin_ret, sk_mv, sk_give, sk_bin, sk_nilc, sk_fld, sk_load, sk_lenL, get_mk, raw_slot, raw_lit, put_some, wb_nil, ev_mv, ev_give, ev_nilc, ev_fld, bin_lss, ev_ldP, ldP_some, ro_int, ro_bool, ro_ptr, List.map_cons, List.map_nil, List.getD_cons_zero, List.getD_cons_succ, List.set_cons_zero, List.set_cons_succ, List.getElem?_cons_zero, List.replicate_succ, List.replicate_zero, List.cons_append, List.nil_append, true_and, Bool.false_eq_true, Option.map_some, ↓reduceIte, Nat.zero_add]
    exact ⟨_, .same, rfl⟩
  have hil : i < L.length := by omega
  have hd : decide ((i : Int) < (L.length : Int)) = true := by simp; omega
  rw [List.drop_eq_getElem_cons hil, List.any_cons] at ha
  rw [roV_some hil] at hu hla
  have h5 := fO_len L
  have e0 := fO_at hil 0 (by omega)
  rw [Nat.add_zero] at e0
  change _ = some (SV.int .i64 L[i].1) at e0
  cases hx : L[i].1 == x with
  | true =>
    rw [hx, Bool.true_or] at ha
    rw [← ha]
    simp (maxSteps := 2000000) (disch := first | omega | (simp only [List.length_append, List.length_cons, List.length_nil, List.length_map] <;> omega)) only [h', hu, hla, hd, e0, hx, ev_fldE, Nat.add_zero, lpK_r, Int.toNat_natCast, flg_bool, sk_idxB, idxB_ro, swp_seq, swp_reg, swp_skip, swp_ret, swp_block, swp_cond, seqK_n, seqK_r, blkK_r, condK_t, evK_some, appK_eq, srun_nil, srun_cons, fin_ret, sk_mv, sk_give, sk_bin, sk_nilc, sk_fld, sk_load, sk_lenL, get_mk, raw_slot, raw_lit, put_some, wb_nil, ev_mv, ev_give, ev_nilc, ev_fld, bin_eql, bin_lss, ev_ldP, ldP_some, ev_loadE, ro_int, ro_bool, ro_ptr, List.map_cons, List.map_nil, List.getD_cons_zero, List.getD_cons_succ, List.set_cons_zero, List.set_cons_succ, List.getElem?_cons_zero, List.replicate_succ, List.replicate_zero, List.cons_append, List.nil_append, true_and, Bool.false_eq_true, Option.map_some, ↓reduceIte]
    exact ⟨_, .same, rfl⟩
  | false =>
    rw [hx, Bool.false_or] at ha
    simp (maxSteps := 2000000) (disch := first | omega | (simp only [List.length_append, List.length_cons, List.length_nil, List.length_map] <;> omega)) only [h', hu, hla, hd, e0, hx, ev_fldE, Nat.add_zero, lpK_n, Int.toNat_natCast, flg_int, sk_idxB, idxB_ro, swp_seq, swp_reg, swp_skip, swp_block, swp_cond, seqK_n, blkK_n, condK_t, condK_f, evK_some, appK_eq, srun_nil, srun_cons, sk_mv, sk_give, sk_bin, sk_nilc, sk_fld, sk_load, sk_lenL, get_mk, raw_slot, raw_lit, put_some, wb_nil, ev_mv, ev_give, ev_nilc, ev_fld, bin_add, bin_eql, bin_lss, ev_ldP, ldP_some, ev_loadE, ro_int, ro_ptr, List.map_cons, List.map_nil, List.getD_cons_zero, List.getD_cons_succ, List.set_cons_zero, List.set_cons_succ, List.getElem?_cons_zero, List.replicate_succ, List.replicate_zero, List.cons_append, List.nil_append, Bool.false_eq_true, Option.map_some, ↓reduceIte, wrap_i64]
    refine ⟨_, ?_, ⟨i + 1, by omega, ha, rfl⟩, ?_⟩
    · refine Forget.of ?_
      repeat first | exact fg_e | refine fg_d ?_ | refine fg_k rfl ?_
    · show ((L.length : Int) - ((i + 1 : Nat) : Int)).toNat < ((L.length : Int) - (i : Int)).toNat
      omega
set_option maxHeartbeats 1000000 in
theorem k29 (O : Orc) {st : List Ob} {y : Nat} {V : VS} (h : st[y]? = some (Yob V)) (hl : V.n.length ≤ 16384) (x : Int) : swpF O sf29 [.ptr y 0, .int .i64 x] st (fun r st' => r = .bool (V.n.any fun p => p.2 == x) ∧ st' = st) := by
  obtain ⟨lv, hlv⟩ : ∃ lv, lv = ownV fO 4 V.s := ⟨_, rfl⟩
  obtain ⟨nv, hnv⟩ : ∃ nv, nv = ownV fN 3 V.n := ⟨_, rfl⟩
  have h' : st[y]? = some (.cells [lv, nv]) := by rw [h, hlv, hnv]; rfl
  have hu : ro nv = roV fN V.n := by rw [hnv]; exact ro_ownV
  generalize V.n = L at *
  obtain ⟨hro, hgot, hexc, hflg, hla⟩ := rdR_facts (roV_rd (f := fN) (l := L))
  simp (maxSteps := 2000000) (disch := first | omega | (simp only [List.length_append, List.length_cons, List.length_nil, List.length_map] <;> omega)) only [sf29, flg_bool, exc_int, swp_seq, swp_reg, swp_block, seqK_n, evK_some, appK_eq, srun_nil, srun_cons, swpF_eq, sk_take, sk_give, raw_lit, put_some, wb_nil, ev_take, ev_give, ro_bool, got_int, List.map_cons, List.map_nil, List.set_cons_zero, List.set_cons_succ, List.length_cons, List.length_nil, List.replicate_succ, List.replicate_zero, List.cons_append, List.nil_append, Nat.reduceAdd, Nat.reduceSub, Bool.false_eq_true, ↓reduceIte, Nat.zero_add]
  refine swp_lp (fun S => ∃ (i : Nat), i ≤ L.length ∧ (L.drop i).any (fun p => p.2 == x) = L.any (fun p => p.2 == x) ∧
      S = ⟨[.ptr y 0, .int .i64 x, .undef, .undef, .bool false, .int .i64 i] ++ List.replicate 19 .undef, st⟩)
      (fun S => match S.get 5 with | .int _ k => ((L.length : Int) - k).toNat | _ => 0)
      ⟨[.ptr y 0, .int .i64 x, .undef, .undef, .bool false, .int .i64 0] ++ List.replicate 19 .undef, st⟩ ?_ ⟨0, by omega, rfl, rfl⟩ ?_
  · refine Forget.of ?_
    repeat first | exact fg_e | refine fg_d ?_ | refine fg_k rfl ?_
  rintro S ⟨i, hi, ha, rfl⟩
  by_cases him : i = L.length
  · subst him
    have hd : decide ((L.length : Int) < (L.length : Int)) = false := by simp
    rw [List.drop_length] at ha
    rw [← ha]
    simp (maxSteps := 2000000) (disch := first | omega | (simp only [List.length_append, List.length_cons, List.length_nil, List.length_map] <;> omega)) only [h', hu, hla, hd, List.any_nil, lpK_e, flg_bool, swp_seq, swp_reg, swp_ret, swp_exit, swp_cond, seqK_n, seqK_e, blkK_e, condK_f, evK_some, appK_eq, srun_nil, srun_cons, fin_ret, sk_mv, sk_give, sk_bin, sk_nilc, sk_fld, sk_load, sk_lenL, get_mk, raw_slot, raw_lit, put_some, wb_nil, ev_mv, ev_give, ev_nilc, ev_fld, bin_lss, ev_ldP, ldP_some, ro_int, ro_bool, ro_ptr, List.map_cons, List.map_nil, List.getD_cons_zero, List.getD_cons_succ, List.set_cons_zero, List.set_cons_succ, List.getElem?_cons_zero, List.getElem?_cons_succ, List.replicate_succ, List.replicate_zero, List.cons_append, List.nil_append, true_and, Bool.false_eq_true, Option.map_some, ↓reduceIte, Nat.zero_add]
    exact ⟨_, .same, rfl⟩
  have hil : i < L.length := by omega
  have hd : decide ((i : Int) < (L.length : Int)) = true := by simp; omega
  rw [List.drop_eq_getElem_cons hil, List.any_cons] at ha
  rw [roV_some hil] at hu hla
  have h5 := fN_len L
  have e0 := fN_at hil 0 (by omega)
  rw [Nat.add_zero] at e0
  change _ = some (SV.int .i64 L[i].2) at e0
  cases hx : L[i].2 == x with
  | true =>
    rw [hx, Bool.true_or] at ha
    rw [← ha]
    simp (maxSteps := 2000000) (disch := first | omega | (simp only [List.length_append, List.length_cons, List.length_nil, List.length_map] <;> omega)) only [h', hu, hla, hd, e0, hx, ev_fldE, Nat.add_zero, lpK_r, Int.toNat_natCast, flg_bool, sk_idxB, idxB_ro, swp_seq, swp_reg, swp_skip, swp_ret, swp_block, swp_cond, seqK_n, seqK_r, blkK_r, condK_t, evK_some, appK_eq, srun_nil, srun_cons, fin_ret, sk_mv, sk_give, sk_bin, sk_nilc, sk_fld, sk_load, sk_lenL, get_mk, raw_slot, raw_lit, put_some, wb_nil, ev_mv, ev_give, ev_nilc, ev_fld, bin_eql, bin_lss, ev_ldP, ldP_some, ev_loadE, ro_int, ro_bool, ro_ptr, List.map_cons, List.map_nil, List.getD_cons_zero, List.getD_cons_succ, List.set_cons_zero, List.set_cons_succ, List.getElem?_cons_zero, List.getElem?_cons_succ, List.replicate_succ, List.replicate_zero, List.cons_append, List.nil_append, true_and, Bool.false_eq_true, Option.map_some, ↓reduceIte, Nat.zero_add]
    exact ⟨_, .same, rfl⟩
  | false =>
    rw [hx, Bool.false_or] at ha
    simp (maxSteps := 2000000) (disch := first | omega | (simp only [List.length_append, List.length_cons, List.length_nil, List.length_map] <;> omega)) only [h', hu, hla, hd, e0, hx, ev_fldE, Nat.add_zero, lpK_n, Int.toNat_natCast, flg_int, sk_idxB, idxB_ro, swp_seq, swp_reg, swp_skip, swp_block, swp_cond, seqK_n, blkK_n, condK_t, condK_f, evK_some, appK_eq, srun_nil, srun_cons, sk_mv, sk_give, sk_bin, sk_nilc, sk_fld, sk_load, sk_lenL, get_mk, raw_slot, raw_lit, put_some, wb_nil, ev_mv, ev_give, ev_nilc, ev_fld, bin_add, bin_eql, bin_lss, ev_ldP, ldP_some, ev_loadE, ro_int, ro_ptr, List.map_cons, List.map_nil, List.getD_cons_zero, List.getD_cons_succ, List.set_cons_zero, List.set_cons_succ, List.getElem?_cons_zero, List.getElem?_cons_succ, List.replicate_succ, List.replicate_zero, List.cons_append, List.nil_append, Bool.false_eq_true, Option.map_some, ↓reduceIte, Nat.zero_add, wrap_i64]
    refine ⟨_, ?_, ⟨i + 1, by omega, ha, rfl⟩, ?_⟩
    · refine Forget.of ?_
      repeat first | exact fg_e | refine fg_d ?_ | refine fg_k rfl ?_
    · show ((L.length : Int) - ((i + 1 : Nat) : Int)).toNat < ((L.length : Int) - (i : Int)).toNat
      omega
/-- The first one's size. -/
def szL (x : Int) : List (Int × Sd) → Int
  | [] => 0
  | p :: l => if p.1 == x then sizeF (bucketF p.2.2.2.length) else szL x l
theorem szL_eq {V : VS} {x : Int} : szF V x = szL x V.s := by
  unfold szF
  generalize V.s = l
  induction l with
  | nil => rfl
  | cons p l ih =>
    simp only [mget, szL]
    by_cases h : x = p.1
    · subst h; simp
    · rw [beq_eq_false_iff_ne.2 h, beq_eq_false_iff_ne.2 fun e => h e.symm]
      exact ih
theorem rbk {st : List Ob} (n : Int) : O49 26 [.int .i64 n] st (.int .i64 (bucketF n)) st := .inl (.inl (l43 (.inl (l37 (.inr ⟨rfl, n, rfl, rfl, rfl⟩)))))
theorem rsz {st : List Ob} (n : Int) : O49 31 [.int .i64 n] st (.int .i64 (sizeF n)) st := .inl (.inl (l43 (.inl (l37 (.inl (.inr ⟨rfl, n, rfl, rfl, rfl⟩))))))
set_option maxHeartbeats 1000000 in
theorem k20 {st : List Ob} {y : Nat} {V : VS} (h : st[y]? = some (Yob V)) (hl : V.s.length ≤ 16384) (x : Int) : swpF O49 sf20 [.ptr y 0, .int .i64 x] st (fun r st' => r = .int .i64 (szF V x) ∧ st' = st) := by
  rw [szL_eq]
  obtain ⟨lv, hlv⟩ : ∃ lv, lv = ownV fO 4 V.s := ⟨_, rfl⟩
  obtain ⟨nv, hnv⟩ : ∃ nv, nv = ownV fN 3 V.n := ⟨_, rfl⟩
  have h' : st[y]? = some (.cells [lv, nv]) := by rw [h, hlv, hnv]; rfl
  have hu : ro lv = roV fO V.s := by rw [hlv]; exact ro_ownV
  generalize V.s = L at *
  obtain ⟨hro, hgot, hexc, hflg, hla⟩ := rdR_facts (roV_rd (f := fO) (l := L))
  simp (maxSteps := 2000000) (disch := first | omega | (simp only [List.length_append, List.length_cons, List.length_nil, List.length_map] <;> omega)) only [sf20, flg_int, exc_int, swp_seq, swp_reg, swp_block, seqK_n, evK_some, appK_eq, srun_nil, srun_cons, swpF_eq, sk_take, sk_give, raw_lit, put_some, wb_nil, ev_take, ev_give, ro_int, got_int, List.map_cons, List.map_nil, List.set_cons_zero, List.set_cons_succ, List.length_cons, List.length_nil, List.replicate_succ, List.replicate_zero, List.cons_append, List.nil_append, Nat.reduceAdd, Nat.reduceSub, Bool.false_eq_true, ↓reduceIte, Nat.zero_add]
  refine swp_lp (fun S => ∃ (i : Nat), i ≤ L.length ∧ szL x (L.drop i) = szL x L ∧
      S = ⟨[.ptr y 0, .int .i64 x, .undef, .undef, .int .i64 0, .int .i64 i] ++ List.replicate 30 .undef, st⟩)
      (fun S => match S.get 5 with | .int _ k => ((L.length : Int) - k).toNat | _ => 0)
      ⟨[.ptr y 0, .int .i64 x, .undef, .undef, .int .i64 0, .int .i64 0] ++ List.replicate 30 .undef, st⟩ ?_ ⟨0, by omega, rfl, rfl⟩ ?_
  · refine Forget.of ?_
    repeat first | exact fg_e | refine fg_d ?_ | refine fg_k rfl ?_
  rintro S ⟨i, hi, ha, rfl⟩
  by_cases him : i = L.length
  · subst him
    have hd : decide ((L.length : Int) < (L.length : Int)) = false := by simp
    rw [List.drop_length] at ha
    rw [← ha]
    simp (maxSteps := 2000000) (disch := first | omega | (simp only [List.length_append, List.length_cons, List.length_nil, List.length_map] <;> omega)) only [h', hu, hla, hd, szL, lpK_e, flg_int, swp_seq, swp_reg, swp_ret, swp_exit, swp_cond, seqK_n, seqK_e, blkK_e, condK_f, evK_some, appK_eq, srun_nil, srun_cons, fin_ret, sk_mv, sk_give, sk_bin, sk_nilc, sk_fld, sk_load, sk_lenL, get_mk, raw_slot, raw_lit, put_some, wb_nil, ev_mv, ev_give, ev_nilc, ev_fld, bin_lss, ev_ldP, ldP_some, ro_int, ro_ptr, List.map_cons, List.map_nil, List.getD_cons_zero, List.getD_cons_succ, List.set_cons_zero, List.set_cons_succ, List.getElem?_cons_zero, List.replicate_succ, List.replicate_zero, List.cons_append, List.nil_append, true_and, Bool.false_eq_true, Option.map_some, ↓reduceIte, Nat.zero_add]
    exact ⟨_, .same, rfl⟩
  have hil : i < L.length := by omega
  have hd : decide ((i : Int) < (L.length : Int)) = true := by simp; omega
  rw [List.drop_eq_getElem_cons hil] at ha
  simp only [szL] at ha
  rw [roV_some hil] at hu hla
  have h5 := fO_len L
  have e0 := fO_at hil 0 (by omega)
  have e3 := fO_at hil 3 (by omega)
  rw [Nat.add_zero] at e0
  change _ = some (SV.int .i64 L[i].1) at e0
  change _ = some (SV.str L[i].2.2.2) at e3
  cases hx : L[i].1 == x with
  | true =>
    rw [hx, if_pos rfl] at ha
    rw [← ha]
    simp (maxSteps := 2000000) (disch := first | omega | (simp only [List.length_append, List.length_cons, List.length_nil, List.length_map] <;> omega)) only [h', hu, hla, hd, e0, e3, hx, ev_fldE, Nat.add_zero, Int.toNat_natCast, exc_int, sk_idxB, idxB_ro, swp_seq, swp_reg, swp_skip, swp_block, swp_cond, seqK_n, condK_t, evK_some, appK_eq, srun_nil, srun_cons, stepK_call, sk_mv, sk_bin, sk_nilc, sk_fld, sk_load, sk_lenS, sk_lenL, get_mk, raw_slot, put_some, wb_nil, ev_mv, ev_nilc, ev_fld, ev_lenS, bin_eql, bin_lss, ev_ldP, ldP_some, ev_loadE, ro_int, ro_str, ro_ptr, got_int, pubs, pubsFrom, List.map_cons, List.map_nil, List.getD_cons_zero, List.getD_cons_succ, List.set_cons_zero, List.set_cons_succ, List.getElem?_cons_zero, List.replicate_succ, List.replicate_zero, List.cons_append, List.nil_append, Bool.false_eq_true, Option.map_some, ↓reduceIte]
    refine callK_intro (rbk _) ?_
    simp (maxSteps := 2000000) (disch := first | omega | (simp only [List.length_append, List.length_cons, List.length_nil, List.length_map] <;> omega)) only [exc_int, appC_eq, srun_cons, stepK_call, get_mk, raw_slot, put_some, wb_nil, got_int, pubs, pubsFrom, List.map_cons, List.map_nil, List.getD_cons_zero, List.getD_cons_succ, List.set_cons_zero, List.set_cons_succ, Bool.false_eq_true, ↓reduceIte]
    refine callK_intro (rsz _) ?_
    simp (maxSteps := 2000000) (disch := first | omega | (simp only [List.length_append, List.length_cons, List.length_nil, List.length_map] <;> omega)) only [lpK_r, flg_int, swp_ret, seqK_n, seqK_r, blkK_r, evK_some, appK_eq, appC_eq, srun_nil, srun_cons, fin_ret, sk_give, get_mk, raw_slot, put_some, wb_nil, ev_give, ro_int, List.map_cons, List.map_nil, List.getD_cons_zero, List.getD_cons_succ, List.set_cons_zero, List.set_cons_succ, true_and, Bool.false_eq_true, ↓reduceIte]
    exact ⟨_, .same, rfl⟩
  | false =>
    rw [hx, if_neg (by simp)] at ha
    simp (maxSteps := 2000000) (disch := first | omega | (simp only [List.length_append, List.length_cons, List.length_nil, List.length_map] <;> omega)) only [h', hu, hla, hd, e0, hx, ev_fldE, Nat.add_zero, lpK_n, Int.toNat_natCast, flg_int, sk_idxB, idxB_ro, swp_seq, swp_reg, swp_skip, swp_block, swp_cond, seqK_n, blkK_n, condK_t, condK_f, evK_some, appK_eq, srun_nil, srun_cons, sk_mv, sk_give, sk_bin, sk_nilc, sk_fld, sk_load, sk_lenL, get_mk, raw_slot, raw_lit, put_some, wb_nil, ev_mv, ev_give, ev_nilc, ev_fld, bin_add, bin_eql, bin_lss, ev_ldP, ldP_some, ev_loadE, ro_int, ro_ptr, List.map_cons, List.map_nil, List.getD_cons_zero, List.getD_cons_succ, List.set_cons_zero, List.set_cons_succ, List.getElem?_cons_zero, List.replicate_succ, List.replicate_zero, List.cons_append, List.nil_append, Bool.false_eq_true, Option.map_some, ↓reduceIte, wrap_i64]
    refine ⟨_, ?_, ⟨i + 1, by omega, ha, rfl⟩, ?_⟩
    · refine Forget.of ?_
      repeat first | exact fg_e | refine fg_d ?_ | refine fg_k rfl ?_
    · show ((L.length : Int) - ((i + 1 : Nat) : Int)).toNat < ((L.length : Int) - (i : Int)).toNat
      omega
def K27 : List SV → List Ob → SV → List Ob → Prop := fun args st r st' => ∃ y V x, st[y]? = some (Yob V) ∧ V.s.length ≤ 16384 ∧ args = [.ptr y 0, .int .i64 x] ∧ r = .bool (V.s.any fun p => p.1 == x) ∧ st' = st
def K29 : List SV → List Ob → SV → List Ob → Prop := fun args st r st' => ∃ y V x, st[y]? = some (Yob V) ∧ V.n.length ≤ 16384 ∧ args = [.ptr y 0, .int .i64 x] ∧ r = .bool (V.n.any fun p => p.2 == x) ∧ st' = st
def K20 : List SV → List Ob → SV → List Ob → Prop := fun args st r st' => ∃ y V x, st[y]? = some (Yob V) ∧ V.s.length ≤ 16384 ∧ args = [.ptr y 0, .int .i64 x] ∧ r = .int .i64 (szF V x) ∧ st' = st
def O50 : Orc := O49.add 20 K20
theorem s50 : Sound Proofs.Try.prog O50 := s49.add c20 (by kernel_rfl) (by
  rintro args st r st' ⟨y, V, x, h, hl, rfl, rfl, rfl⟩
  exact ⟨by simp [sf20], k20 h hl x⟩)
def O51 : Orc := O50.add 27 K27
theorem s51 : Sound Proofs.Try.prog O51 := s50.add c27 (by kernel_rfl) (by
  rintro args st r st' ⟨y, V, x, h, hl, rfl, rfl, rfl⟩
  exact ⟨by simp [sf27], k27 _ h hl x⟩)
def O52 : Orc := O51.add 29 K29
theorem s52 : Sound Proofs.Try.prog O52 := s51.add c29 (by kernel_rfl) (by
  rintro args st r st' ⟨y, V, x, h, hl, rfl, rfl, rfl⟩
  exact ⟨by simp [sf29], k29 _ h hl x⟩)
end Go.Sh.F
