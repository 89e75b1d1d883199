/-
  VaultOpens, in the shadow machine.
-/
import Derived.Test.YtmbaokfcdfhfeaaV9
set_option linter.unusedSimpArgs false
set_option linter.unusedVariables false
namespace Go.Sh.F
/-- A list that is appended to, and may be read. -/
def ownL {α : Type} (f : α → List SV) (es : Nat) (v : SV) (l : List α) : Prop := (v = .nilS ∧ l = []) ∨ (l ≠ [] ∧ v = .sl (l.flatMap f) l.length (.own es))
theorem ownL_len {α : Type} {f : α → List SV} {es : Nat} {v : SV} {l : List α} (h : ownL f es v l) (st : List Ob) : ev st .lenL [v] = some (.int .i64 l.length, [], st) := by
  rcases h with ⟨rfl, rfl⟩ | ⟨_, rfl⟩
  · exact ev_lenN
  · exact ev_lenL
theorem ownL_some {α : Type} {f : α → List SV} {es : Nat} {v : SV} {l : List α} (h : ownL f es v l) {i : Nat} (hi : i < l.length) : v = .sl (l.flatMap f) l.length (.own es) := by
  rcases h with ⟨_, rfl⟩ | ⟨_, h⟩
  · simp at hi
  · exact h
def fI (z : Int × Cl) : List SV := [.int .i64 z.1]
def fZ (z : Int × Cl) : List SV := fC z.2
theorem fI_len (l : List (Int × Cl)) : (l.flatMap fI).length = l.length * 1 := flatMap_len (f := fI) (n := 1) (fun _ => rfl) l
theorem fZ_len (l : List (Int × Cl)) : (l.flatMap fZ).length = l.length * 5 := flatMap_len (f := fZ) (n := 5) (fun _ => rfl) l
theorem fI_at {l : List (Int × Cl)} {i : Nat} (h : i < l.length) : (l.flatMap fI)[i]? = some (.int .i64 l[i].1) := by
  rw [flatMap_at (n := 1) (by omega) (fun _ => rfl), Nat.div_one, Nat.mod_one, List.getElem?_eq_getElem h]; rfl
theorem fZ_at {l : List (Int × Cl)} {i : Nat} (h : i < l.length) (j : Nat) (hj : j < 5) : (l.flatMap fZ)[i * 5 + j]? = (fC l[i].2)[j]? := by
  rw [flatMap_at (n := 5) (by omega) (fun _ => rfl), show (i * 5 + j) / 5 = i by omega, show (i * 5 + j) % 5 = j by omega, List.getElem?_eq_getElem h]; rfl
def sdC (c : Cl) : Sd := (c.key, c.ad, c.plain)
def vsZ (zs : List (Int × Cl)) : VS := ⟨zs.map fun z => (z.1, sdC z.2), [], []⟩
/-- What is known of what was sealed. -/
structure Zok (zs : List (Int × Cl)) : Prop where
  get : ∀ i (h : i < zs.length), mget zs[i].1 (vsZ zs).s = some (sdC zs[i].2)
  bkt : ∀ z ∈ zs, 0 ≤ bucketF z.2.plain.length
theorem Zok.nil : Zok [] := ⟨fun i h => by simp at h, fun z h => by simp at h⟩
theorem Zok.snoc {zs : List (Int × Cl)} (h : Zok zs) {a : Int} {c : Cl} (hn : mget a (vsZ zs).s = none) (hb : 0 ≤ bucketF c.plain.length) : Zok (zs ++ [(a, c)]) ∧ vsZ (zs ++ [(a, c)]) = { vsZ zs with s := mput a (sdC c) (vsZ zs).s } := by
  have e : (vsZ (zs ++ [(a, c)])).s = (vsZ zs).s ++ [(a, sdC c)] := by simp [vsZ]
  refine ⟨⟨fun i hi => ?_, fun z hz => ?_⟩, ?_⟩
  · rw [e, mget_app]
    by_cases hi' : i < zs.length
    · rw [List.getElem_append_left hi', h.get i hi']; rfl
    · have hii : i = zs.length := by simp at hi; omega
      subst hii
      rw [List.getElem_append_right (Nat.le_refl _)]
      simp only [Nat.sub_self, List.getElem_cons_zero]
      rw [hn]
      simp [mget]
  · rcases List.mem_append.1 hz with hz | hz
    · exact h.bkt z hz
    · rw [List.mem_singleton.1 hz]; exact hb
  · rw [mput_fresh hn]; simp [vsZ]
theorem sizePos' {n : Nat} (h : 0 ≤ bucketF n) : 0 < sizeF (bucketF n) := by
  have : bucketF n = -1 ∨ bucketF n = 0 ∨ bucketF n = 1 ∨ bucketF n = 2 ∨ bucketF n = 3 := by
    unfold bucketF
    split
    · exact .inl rfl
    · repeat' split
      all_goals simp
  rcases this with e | e | e | e | e <;> rw [e] at h ⊢ <;> first | (exfalso; omega) | decide
theorem in_iff (zs : List (Int × Cl)) (x : Int) : (mget x (vsZ zs).s).isSome = zs.any fun z => z.1 == x := by
  induction zs with
  | nil => rfl
  | cons z zs ih =>
    show (mget x ((z.1, sdC z.2) :: (vsZ zs).s)).isSome = _
    simp only [mget, List.any_cons]
    by_cases h : x = z.1
    · subst h; simp
    · have h1 : (x == z.1) = false := beq_eq_false_iff_ne.2 h
      have h2 : (z.1 == x) = false := beq_eq_false_iff_ne.2 fun e => h e.symm
      rw [h1, h2, Bool.false_or]; exact ih
theorem mget_vs {zs : List (Int × Cl)} {x : Int} {d : Sd} (h : mget x (vsZ zs).s = some d) : ∃ z ∈ zs, d = sdC z.2 := by
  have := mget_of h
  simp only [vsZ, List.mem_map, Prod.mk.injEq] at this
  obtain ⟨z, hz, _, e⟩ := this
  exact ⟨z, hz, e.symm⟩
set_option maxHeartbeats 8000000 in
set_option maxRecDepth 50000 in
theorem fOpens (v : SV) (l : List Cl) (key : Int) (ad : List UInt8) (hv : rdR fC v l) (hl : l.length ≤ 1099511627776) (hs : ∀ c ∈ l, c.ad.length ≤ 1099511627776 ∧ c.plain.length ≤ 1099511627776) :
    swpF O49 sf4 [v, .int .i64 key, .str ad] [] (fun r _ => r = .bool true) := by
  have ho : okSt [] := okSt_nil
  obtain ⟨hro, hgot, hexc, hflg, hla⟩ := rdR_facts hv
  simp (maxSteps := 2000000) (disch := first | omega | (simp only [List.length_append, List.length_cons, List.length_nil, List.length_map] <;> omega)) only [sf4, flg_bool, swp_seq, swp_reg, seqK_n, evK_some, appK_eq, srun_nil, srun_cons, stepK_call, swpF_eq, sk_give, raw_lit, put_some, wb_nil, ev_give, ro_bool, pubs, pubsFrom, List.map_cons, List.map_nil, List.set_cons_zero, List.set_cons_succ, List.length_cons, List.length_nil, List.replicate_succ, List.replicate_zero, List.cons_append, List.nil_append, Nat.reduceAdd, Nat.reduceSub, Bool.false_eq_true, ↓reduceIte, Nat.zero_add]
  refine callK_intro (h10 ho) ?_
  simp (maxSteps := 2000000) (disch := first | omega | (simp only [List.length_append, List.length_cons, List.length_nil, List.length_map] <;> omega)) only [hro, hgot, hexc, flg_bool, swp_seq, swp_reg, seqK_n, evK_some, appK_eq, appC_eq, srun_nil, srun_cons, stepK_call, sk_mv, sk_give, get_mk, raw_slot, put_some, wb_nil, ev_mv, ev_give, ro_bool, pubs, pubsFrom, List.map_cons, List.map_nil, List.getD_cons_zero, List.getD_cons_succ, List.set_cons_zero, List.set_cons_succ, Bool.false_eq_true, ↓reduceIte]
  refine callK_intro (.inl (few_ok hv hl hs _)) ?_
  simp (maxSteps := 2000000) (disch := first | omega | (simp only [List.length_append, List.length_cons, List.length_nil, List.length_map] <;> omega)) only [flg_bool, swp_seq, swp_reg, seqK_n, evK_some, appK_eq, appC_eq, srun_nil, srun_cons, stepK_call, sk_give, get_mk, raw_slot, put_some, wb_nil, ev_give, ro_bool, pubs, pubsFrom, List.map_cons, List.map_nil, List.getD_cons_zero, List.getD_cons_succ, List.set_cons_zero, List.set_cons_succ, Bool.false_eq_true, ↓reduceIte]
  refine callK_intro (.inl (h12 _)) ?_
  cases hf : fewF l with
  | false =>
    simp (maxSteps := 2000000) (disch := first | omega | (simp only [List.length_append, List.length_cons, List.length_nil, List.length_map] <;> omega)) only [grd_t, ev_pick, flg_bool, flg_ptr, exc_bool, exc_ptr, swp_seq, swp_reg, swp_ret, swp_cond, seqK_n, seqK_r, condK_t, evK_some, appK_eq, appC_eq, grd_t, srun_nil, srun_cons, stepK_grd, fin_ret, sk_mv, sk_take, sk_give, sk_pick, sk_eqN, sk_un, get_mk, raw_slot, raw_lit, put_some, wb_nil, ev_mv, ev_take, ev_give, ev_pick, ev_not, ev_eqNp2, ro_bool, ro_ptr, got_bool, got_ptr, List.map_cons, List.map_nil, List.getD_cons_zero, List.getD_cons_succ, List.set_cons_zero, List.set_cons_succ, List.length_nil, and_true, Bool.false_eq_true, ↓reduceIte, Nat.zero_add, reduceCtorEq, Bool.not_false]
    exact ⟨[], .inr ⟨by simp, by simp, rfl, rfl⟩⟩
  | true =>
  by_cases a0 : ad.length ≤ 200
  case neg =>
    have d0 : decide ((200 : Int) < (ad.length : Int)) = true := by simp; omega
    simp (maxSteps := 2000000) (disch := first | omega | (simp only [List.length_append, List.length_cons, List.length_nil, List.length_map] <;> omega)) only [d0, grd_t, ev_pick, flg_bool, flg_ptr, exc_bool, exc_str, exc_ptr, swp_seq, swp_reg, swp_ret, swp_cond, seqK_n, seqK_r, condK_t, evK_some, appK_eq, appC_eq, grd_t, srun_nil, srun_cons, stepK_grd, fin_ret, sk_mv, sk_take, sk_give, sk_pick, sk_bin, sk_eqN, sk_un, sk_lenS, get_mk, raw_slot, raw_lit, put_some, wb_nil, ev_mv, ev_take, ev_give, ev_pick, ev_not, ev_lenS, ev_eqNp2, bin_gtr, ro_bool, ro_ptr, got_bool, got_str, got_ptr, List.map_cons, List.map_nil, List.getD_cons_zero, List.getD_cons_succ, List.set_cons_zero, List.set_cons_succ, List.length_nil, and_true, Bool.false_eq_true, ↓reduceIte, Nat.zero_add, Bool.not_true, gt_iff_lt]
    exact ⟨[], .inr ⟨by simp, by simp, rfl, rfl⟩⟩
  have d0 : decide ((200 : Int) < (ad.length : Int)) = false := by simp; omega
  have hf2 : l.length ≤ 100 := by
    unfold fewF at hf
    simp only [Bool.and_eq_true, decide_eq_true_eq] at hf
    exact hf.2
  have h5 := fC_len l
  simp (maxSteps := 2000000) (disch := first | omega | (simp only [List.length_append, List.length_cons, List.length_nil, List.length_map] <;> omega)) only [d0, grd_t, ev_pick, flg_ptr, exc_bool, exc_int, exc_str, exc_nilS, swp_seq, swp_reg, swp_skip, swp_block, swp_cond, seqK_n, condK_f, evK_some, appK_eq, appC_eq, grd_t, srun_nil, srun_cons, stepK_grd, sk_mv, sk_take, sk_give, sk_pick, sk_bin, sk_eqN, sk_un, sk_lenS, get_mk, raw_slot, raw_lit, put_some, wb_nil, ev_mv, ev_take, ev_give, ev_pick, ev_not, ev_lenS, ev_eqNp2, bin_gtr, ro_bool, ro_ptr, got_int, got_bool, got_str, got_nilS, List.map_cons, List.map_nil, List.getD_cons_zero, List.getD_cons_succ, List.set_cons_zero, List.set_cons_succ, List.length_nil, Bool.false_eq_true, ↓reduceIte, Nat.zero_add, Bool.not_true, gt_iff_lt]
  refine swp_lp (fun S => ∃ (i : Nat) (zs : List (Int × Cl)) (hv cv : SV), i ≤ l.length ∧ zs.length ≤ i ∧ Zok zs ∧ ownL fI 1 hv zs ∧ ownL fZ 5 cv zs ∧
      S = ⟨[v, .int .i64 key, .str ad, .undef, .undef, .undef, .bool false, .bool true, .bool true, .ptr 3 0, hv, cv, .int .i64 i] ++ List.replicate 228 .undef, Sp [] (vsZ zs)⟩)
      (fun S => match S.get 12 with | .int _ k => ((l.length : Int) - k).toNat | _ => 0)
      ⟨[v, .int .i64 key, .str ad, .undef, .undef, .undef, .bool false, .bool true, .bool true, .ptr 3 0, .nilS, .nilS, .int .i64 0] ++ List.replicate 228 .undef, Sp [] (vsZ [])⟩ ?_ ⟨0, [], .nilS, .nilS, by omega, by simp, Zok.nil, .inl ⟨rfl, rfl⟩, .inl ⟨rfl, rfl⟩, rfl⟩ ?_
  · refine Forget.of ?_
    repeat first | exact fg_e | refine fg_d ?_ | refine fg_k rfl ?_
  rintro S ⟨i, zs, hv', cv, hi, hzi, hz, ohv, ocv, rfl⟩
  have hlv := ownL_len ohv
  by_cases him : i = l.length
  case neg =>
    have hd : decide ((i : Int) < (l.length : Int)) = true := by simp; omega
    have hil : i < l.length := by omega
    have hvv : v = .sl (l.flatMap fC) l.length .ro := by
      rcases hv with ⟨_, h⟩ | h
      · subst h; simp at hil
      · exact h
    subst hvv
    obtain ⟨c, hc⟩ : ∃ c, c = l[i] := ⟨_, rfl⟩
    have e1 := fC_at hil 1 (by omega)
    have e2 := fC_at hil 2 (by omega)
    have e3 := fC_at hil 3 (by omega)
    have e4 := fC_at hil 4 (by omega)
    rw [← hc] at e1 e2 e3 e4
    change _ = some (SV.int .i64 c.key) at e1
    change _ = some (SV.int .i64 c.num) at e2
    change _ = some (SV.str c.ad) at e3
    change _ = some (SV.str c.plain) at e4
    have hzl : (vsZ zs).s.length = zs.length := by simp [vsZ]
    rcases bkt_len c.plain with hb | hb
    · simp (maxSteps := 2000000) (disch := first | omega | (simp only [List.length_append, List.length_cons, List.length_nil, List.length_map] <;> omega)) only [hd, hla, e1, e2, e3, e4, ev_fldE, Int.toNat_natCast, exc_int, exc_str, exc_ptr, swp_seq, swp_reg, swp_skip, swp_block, swp_cond, seqK_n, condK_t, evK_some, appK_eq, srun_nil, srun_cons, stepK_call, sk_mv, sk_bin, sk_fld, sk_idxA, sk_load, sk_lenL, get_mk, raw_slot, put_some, wb_nil, ev_mv, bin_lss, ev_loadE, idxA_ro, ro_int, ro_str, ro_ptr, ro_ro, got_int, got_str, got_ptr, pubs, pubsFrom, List.map_cons, List.map_nil, List.getD_cons_zero, List.getD_cons_succ, List.set_cons_zero, List.set_cons_succ, List.replicate_succ, List.replicate_zero, List.cons_append, List.nil_append, Bool.false_eq_true, Option.map_some, ↓reduceIte]
      refine callK_intro (.inl (h13 ho rfl (by rw [hzl]; omega) (seal_no hb))) ?_
      simp (maxSteps := 2000000) (disch := first | omega | (simp only [List.length_append, List.length_cons, List.length_nil, List.length_map] <;> omega)) only [seqK_n, evK_some, appK_eq, appC_eq, srun_nil, srun_cons, sk_mv, get_mk, raw_slot, put_some, wb_nil, ev_mv, ro_tup, ro2_int, List.map_cons, List.map_nil, List.getD_cons_zero, List.getD_cons_succ, List.set_cons_zero, List.set_cons_succ]
      apply swp_to
      · repeat' first | exact swp_ttI | refine swp_bothI ?_ ?_ | exact ⟨rfl, rfl⟩ | exact rfl | simp (maxSteps := 2000000) (disch := first | omega | (simp only [List.length_append, List.length_cons, List.length_nil, List.length_map] <;> omega)) only [flg_int, swp_reg, evK_some, appK_eq, srun_nil, srun_cons, sk_give, sk_ext, get_mk, raw_slot, put_some, wb_nil, ev_give, ev_ext, ro_int, List.map_cons, List.map_nil, List.getD_cons_zero, List.getD_cons_succ, List.set_cons_zero, List.set_cons_succ, List.getElem?_cons_zero, List.getElem?_cons_succ, true_and, Bool.false_eq_true, Option.map_some, ↓reduceIte]
      simp (maxSteps := 2000000) (disch := first | omega | (simp only [List.length_append, List.length_cons, List.length_nil, List.length_map] <;> omega)) only [lpK_n, flg_int, swp_seq, swp_reg, swp_exit, swp_cond, seqK_n, seqK_e, blkK_e, condK_t, evK_some, appK_eq, srun_nil, srun_cons, sk_mv, sk_give, sk_bin, get_mk, raw_slot, raw_lit, put_some, wb_nil, ev_mv, ev_give, bin_add, bin_neq, ro_int, List.map_cons, List.map_nil, List.getD_cons_zero, List.getD_cons_succ, List.set_cons_zero, List.set_cons_succ, Bool.false_eq_true, ↓reduceIte, Int.reduceBNe, wrap_i64]
      refine ⟨_, ?_, ⟨i + 1, zs, hv', cv, by omega, by omega, hz, ohv, ocv, rfl⟩, ?_⟩
      · refine Forget.of ?_
        repeat first | exact fg_e | refine fg_d ?_ | refine fg_k rfl ?_
      · show ((l.length : Int) - ((i + 1 : Nat) : Int)).toNat < ((l.length : Int) - (i : Int)).toNat
        omega
    · obtain ⟨a, ha⟩ : ∃ a, a = drawF (isS (vsZ zs)) (vsZ zs).s.length (maskF c.num) := ⟨_, rfl⟩
      have hfree := isS_free (vsZ zs) (by rw [hzl]; omega) c.num
      rw [← ha] at hfree
      have hn : mget a (vsZ zs).s = none := by
        unfold isS at hfree
        cases h : mget a (vsZ zs).s with
        | none => rfl
        | some _ => rw [h] at hfree; cases hfree
      obtain ⟨hz2, he2⟩ := hz.snoc hn hb
      have r1 : sealF (vsZ zs) c.key c.ad c.plain c.num = ((a, 0), vsZ (zs ++ [(a, c)])) := by
        rw [seal_yes (by omega) (by rw [hzl]; omega), ← ha, he2]; rfl
      have hne : ∀ k (hk : k < zs.length), (zs[k].1 == a) = false := fun k hk => by
        rw [beq_eq_false_iff_ne]
        intro e
        have := hz.get k hk
        rw [e, hn] at this
        cases this
      simp (maxSteps := 2000000) (disch := first | omega | (simp only [List.length_append, List.length_cons, List.length_nil, List.length_map] <;> omega)) only [hd, hla, e1, e2, e3, e4, ev_fldE, Int.toNat_natCast, exc_int, exc_str, exc_ptr, swp_seq, swp_reg, swp_skip, swp_block, swp_cond, seqK_n, condK_t, evK_some, appK_eq, srun_nil, srun_cons, stepK_call, sk_mv, sk_bin, sk_fld, sk_idxA, sk_load, sk_lenL, get_mk, raw_slot, put_some, wb_nil, ev_mv, bin_lss, ev_loadE, idxA_ro, ro_int, ro_str, ro_ptr, ro_ro, got_int, got_str, got_ptr, pubs, pubsFrom, List.map_cons, List.map_nil, List.getD_cons_zero, List.getD_cons_succ, List.set_cons_zero, List.set_cons_succ, List.replicate_succ, List.replicate_zero, List.cons_append, List.nil_append, Bool.false_eq_true, Option.map_some, ↓reduceIte]
      refine callK_intro (.inl (h13 ho rfl (by rw [hzl]; omega) r1)) ?_
      simp (maxSteps := 2000000) (disch := first | omega | (simp only [List.length_append, List.length_cons, List.length_nil, List.length_map] <;> omega)) only [seqK_n, evK_some, appK_eq, appC_eq, srun_nil, srun_cons, sk_mv, get_mk, raw_slot, put_some, wb_nil, ev_mv, ro_tup, ro2_int, List.map_cons, List.map_nil, List.getD_cons_zero, List.getD_cons_succ, List.set_cons_zero, List.set_cons_succ]
      apply swp_to
      · repeat' first | exact swp_ttI | refine swp_bothI ?_ ?_ | exact ⟨rfl, rfl⟩ | exact rfl | simp (maxSteps := 2000000) (disch := first | omega | (simp only [List.length_append, List.length_cons, List.length_nil, List.length_map] <;> omega)) only [flg_int, swp_reg, evK_some, appK_eq, srun_nil, srun_cons, sk_give, sk_ext, get_mk, raw_slot, put_some, wb_nil, ev_give, ev_ext, ro_int, List.map_cons, List.map_nil, List.getD_cons_zero, List.getD_cons_succ, List.set_cons_zero, List.set_cons_succ, List.getElem?_cons_zero, List.getElem?_cons_succ, true_and, Bool.false_eq_true, Option.map_some, ↓reduceIte]
      simp (maxSteps := 2000000) (disch := first | omega | (simp only [List.length_append, List.length_cons, List.length_nil, List.length_map] <;> omega)) only [exc_int, swp_seq, swp_reg, swp_skip, swp_block, swp_cond, seqK_n, condK_f, evK_some, appK_eq, srun_nil, srun_cons, sk_mv, sk_take, sk_bin, get_mk, raw_slot, raw_lit, put_some, wb_nil, ev_mv, ev_take, bin_neq, ro_int, got_int, List.map_cons, List.map_nil, List.getD_cons_zero, List.getD_cons_succ, List.set_cons_zero, List.set_cons_succ, Bool.false_eq_true, ↓reduceIte, bne_self_eq_false]
      refine swp_lp (fun S => ∃ (k : Nat), k ≤ zs.length ∧
          S = ⟨[.sl (l.flatMap fC) l.length .ro, .int .i64 key, .str ad, .undef, .undef, .undef, .bool false, .bool true, .bool true, .ptr 3 0, hv', cv, .int .i64 i, .int .i64 a, .int .i64 0, .int .i64 k] ++ List.replicate 225 .undef, Sp [] (vsZ (zs ++ [(a, c)]))⟩)
          (fun S => match S.get 15 with | .int _ k => ((zs.length : Int) - k).toNat | _ => 0)
          ⟨[.sl (l.flatMap fC) l.length .ro, .int .i64 key, .str ad, .undef, .undef, .undef, .bool false, .bool true, .bool true, .ptr 3 0, hv', cv, .int .i64 i, .int .i64 a, .int .i64 0, .int .i64 0] ++ List.replicate 225 .undef, Sp [] (vsZ (zs ++ [(a, c)]))⟩ ?_ ⟨0, by omega, rfl⟩ ?_
      · refine Forget.of ?_
        repeat first | exact fg_e | refine fg_d ?_ | refine fg_k rfl ?_
      rintro S ⟨k, hk, rfl⟩
      by_cases hkz : k = zs.length
      case neg =>
        have hkl : k < zs.length := by omega
        have hdk : decide ((k : Int) < (zs.length : Int)) = true := by simp; omega
        have hvo := ownL_some ohv hkl
        subst hvo
        have hil2 := fI_len zs
        have hik := fI_at hkl
        have hnk := hne k hkl
        simp (maxSteps := 2000000) (disch := first | omega | (simp only [List.length_append, List.length_cons, List.length_nil, List.length_map] <;> omega)) only [hdk, hik, hnk, Nat.mul_one, lpK_n, Int.toNat_natCast, flg_int, sk_idxB, idxB_own, swp_seq, swp_reg, swp_skip, swp_block, swp_cond, seqK_n, blkK_n, condK_t, condK_f, evK_some, appK_eq, srun_nil, srun_cons, sk_mv, sk_give, sk_bin, sk_load, sk_lenL, get_mk, raw_slot, raw_lit, put_some, wb_nil, ev_mv, ev_give, ev_lenL, bin_add, bin_eql, bin_lss, ev_loadE, ro_int, ro_own, List.map_cons, List.map_nil, List.getD_cons_zero, List.getD_cons_succ, List.set_cons_zero, List.set_cons_succ, List.replicate_succ, List.replicate_zero, List.cons_append, List.nil_append, Bool.false_eq_true, Option.map_some, ↓reduceIte, Nat.mul_one, wrap_i64]
        refine ⟨_, ?_, ⟨k + 1, by omega, rfl⟩, ?_⟩
        · refine Forget.of ?_
          repeat first | exact fg_e | refine fg_d ?_ | refine fg_k rfl ?_
        · show ((zs.length : Int) - ((k + 1 : Nat) : Int)).toNat < ((zs.length : Int) - (k : Int)).toNat
          omega
      subst hkz
      have hdk : decide ((zs.length : Int) < (zs.length : Int)) = false := by simp
      have e5 : ev (Sp [] (vsZ (zs ++ [(a, c)]))) (.load 5 true) [.elv (l.flatMap fC) (i * 5)] = some (.agg (fC c), [], Sp [] (vsZ (zs ++ [(a, c)]))) := by
        rw [ev_ldE (by omega), flatMap_drop (f := fC) (n := 5) (fun _ => rfl) l i c (by rw [hc]; exact List.getElem?_eq_getElem hil)]; rfl
      have hb5 : ∀ st, ev st (.bsl 5 1 [.int .i64 0, .int .i64 0, .int .i64 0, .str [], .str []] [0]) [.agg (fC c)] = some (.sl (fC c) 1 (.excl 5), [], st) := fun _ => rfl
      have hc5 : (fC c).length = 1 * 5 := rfl
      have hb1 : ∀ st, ev st (.bsl 1 1 [.int .i64 0] [0]) [.int .i64 a] = some (.sl [.int .i64 a] 1 (.excl 1), [], st) := fun _ => rfl
      have hnew : ∀ {es : Nat} {f : Int × Cl → List SV} {A : List SV} {n : Nat}, A = (zs ++ [(a, c)]).flatMap f → n = zs.length + 1 → ownL f es (.sl A n (.own es)) (zs ++ [(a, c)]) := by
        rintro es f A n rfl rfl
        exact .inr ⟨by simp, by simp⟩
      rcases ohv with ⟨rfl, h0⟩ | ⟨h0, rfl⟩
      · have hcv : cv = .nilS := by
          rcases ocv with ⟨h, _⟩ | ⟨h, _⟩
          · exact h
          · exact absurd h0 h
        subst hcv
        have hdk0 : decide ((zs.length : Int) < 0) = false := by simp
        simp (maxSteps := 2000000) (disch := first | omega | (simp only [List.length_append, List.length_cons, List.length_nil, List.length_map] <;> omega)) only [hlv, hdk, e5, hb1, hb5, lpK_n, lpK_e, Int.toNat_natCast, sk_giveP, ev_giveP, pub_excl2, flg_int, flg_excl, sk_idxB, idxB_ro, swp_seq, swp_reg, swp_exit, swp_cond, seqK_n, seqK_e, blkK_n, blkK_e, condK_f, evK_some, appK_eq, srun_nil, srun_cons, sk_mv, sk_give, sk_bin, sk_load, sk_lenL, sk_bsl, sk_app, get_mk, raw_slot, raw_lit, put_some, wb_nil, wb_cons, ev_mv, ev_give, bin_add, bin_lss, ro_int, ro_nilS, ro_ro, ro_excl, List.map_cons, List.map_nil, List.getD_cons_zero, List.getD_cons_succ, List.set_cons_zero, List.set_cons_succ, List.getElem?_cons_zero, List.replicate_succ, List.replicate_zero, List.cons_append, List.nil_append, Bool.false_eq_true, ↓reduceIte, wrap_i64, app_nil]
        refine ⟨_, ?_, ⟨i + 1, zs ++ [(a, c)], _, _, by omega, by simp [h0], hz2, hnew (f := fI) (A := [.int .i64 a]) (n := 1) ?_ (by simp [h0]), hnew (f := fZ) (A := fC c) (n := 1) ?_ (by simp [h0]), rfl⟩, ?_⟩
        · refine Forget.of ?_
          repeat first | exact fg_e | refine fg_d ?_ | refine fg_k rfl ?_
        · simp [fI, h0]
        · simp [fZ, h0]
        · show ((l.length : Int) - ((i + 1 : Nat) : Int)).toNat < ((l.length : Int) - (i : Int)).toNat
          omega
      · have hcv : cv = .sl (zs.flatMap fZ) zs.length (.own 5) := by
          rcases ocv with ⟨_, h⟩ | ⟨_, h⟩
          · exact absurd h h0
          · exact h
        subst hcv
        have hil2 := fI_len zs
        have hil3 := fZ_len zs
        simp (maxSteps := 2000000) (disch := first | omega | (simp only [List.length_append, List.length_cons, List.length_nil, List.length_map] <;> omega)) only [hlv, hdk, e5, hb1, hb5, lpK_n, lpK_e, Int.toNat_natCast, app_own, sk_giveP, ev_giveP, pub_own, flg_int, flg_own, sk_idxB, idxB_ro, swp_seq, swp_reg, swp_exit, swp_cond, seqK_n, seqK_e, blkK_n, blkK_e, condK_f, evK_some, appK_eq, srun_nil, srun_cons, sk_mv, sk_give, sk_bin, sk_load, sk_lenL, sk_bsl, sk_app, get_mk, raw_slot, raw_lit, put_some, wb_nil, wb_cons, ev_mv, ev_give, bin_add, bin_lss, ro_int, ro_ro, ro_own, List.map_cons, List.map_nil, List.getD_cons_zero, List.getD_cons_succ, List.set_cons_zero, List.set_cons_succ, List.getElem?_cons_zero, List.replicate_succ, List.replicate_zero, List.cons_append, List.nil_append, Bool.false_eq_true, ↓reduceIte, wrap_i64]
        refine ⟨_, ?_, ⟨i + 1, zs ++ [(a, c)], _, _, by omega, by simp; omega, hz2, hnew (f := fI) (A := zs.flatMap fI ++ [.int .i64 a]) (n := zs.length + 1) ?_ rfl, hnew (f := fZ) (A := zs.flatMap fZ ++ fC c) (n := zs.length + 1) ?_ rfl, rfl⟩, ?_⟩
        · refine Forget.of ?_
          repeat first | exact fg_e | refine fg_d ?_ | refine fg_k rfl ?_
        · simp [fI]
        · simp [fZ]
        · show ((l.length : Int) - ((i + 1 : Nat) : Int)).toNat < ((l.length : Int) - (i : Int)).toNat
          omega
  subst him
  have hd : decide ((l.length : Int) < (l.length : Int)) = false := by simp
  simp (maxSteps := 2000000) (disch := first | omega | (simp only [List.length_append, List.length_cons, List.length_nil, List.length_map] <;> omega)) only [hd, hla, lpK_e, exc_int, swp_seq, swp_reg, swp_exit, swp_block, swp_cond, seqK_n, seqK_e, blkK_e, condK_f, evK_some, appK_eq, srun_nil, srun_cons, sk_mv, sk_take, sk_bin, sk_lenL, get_mk, raw_slot, raw_lit, put_some, wb_nil, ev_mv, ev_take, bin_lss, ro_int, got_int, List.map_cons, List.map_nil, List.getD_cons_zero, List.getD_cons_succ, List.set_cons_zero, List.set_cons_succ, List.replicate_succ, List.replicate_zero, List.cons_append, List.nil_append, Bool.false_eq_true, ↓reduceIte]
  -- what was sealed opens
  refine swp_lp (fun S => ∃ (k : Nat), k ≤ zs.length ∧
      S = ⟨[v, .int .i64 key, .str ad, .undef, .undef, .undef, .bool false, .bool true, .bool true, .ptr 3 0, hv', cv, .undef, .undef, .undef, .undef, .int .i64 k] ++ List.replicate 224 .undef, Sp [] (vsZ zs)⟩)
      (fun S => match S.get 16 with | .int _ k => ((zs.length : Int) - k).toNat | _ => 0)
      ⟨[v, .int .i64 key, .str ad, .undef, .undef, .undef, .bool false, .bool true, .bool true, .ptr 3 0, hv', cv, .undef, .undef, .undef, .undef, .int .i64 0] ++ List.replicate 224 .undef, Sp [] (vsZ zs)⟩ ?_ ⟨0, by omega, rfl⟩ ?_
  · refine Forget.of ?_
    repeat first | exact fg_e | refine fg_d ?_ | refine fg_k rfl ?_
  rintro S ⟨k, hk, rfl⟩
  by_cases hkz : k = zs.length
  case neg =>
    have hkl : k < zs.length := by omega
    have hdk : decide ((k : Int) < (zs.length : Int)) = true := by simp; omega
    have hvo := ownL_some ohv hkl
    have hco := ownL_some ocv hkl
    subst hvo hco
    have hil2 := fI_len zs
    have hil3 := fZ_len zs
    have hik := fI_at hkl
    obtain ⟨c, hc⟩ : ∃ c, c = zs[k].2 := ⟨_, rfl⟩
    obtain ⟨a, ha⟩ : ∃ a, a = zs[k].1 := ⟨_, rfl⟩
    have e1 := fZ_at hkl 1 (by omega)
    have e3 := fZ_at hkl 3 (by omega)
    have e4 := fZ_at hkl 4 (by omega)
    rw [← hc] at e1 e3 e4
    rw [← ha] at hik
    change _ = some (SV.int .i64 c.key) at e1
    change _ = some (SV.str c.ad) at e3
    change _ = some (SV.str c.plain) at e4
    have hg := hz.get k hkl
    rw [← ha, ← hc] at hg
    have o1 : openF (vsZ zs) c.key c.ad a = (c.plain, 0) := by unfold openF; rw [hg]; simp [sdC]
    have e5 : (c.plain == c.plain) = true := by simp
    by_cases q1 : key = c.key
    · have f1 : (key == c.key) = true := by simpa using q1
      by_cases q2 : ad = c.ad
      · have f2 : (ad == c.ad) = true := by simpa using q2
        have o2 : openF (vsZ zs) key ad a = (c.plain, 0) := by unfold openF; rw [hg, q1, q2]; simp [sdC]
        simp (maxSteps := 2000000) (disch := first | omega | (simp only [List.length_append, List.length_cons, List.length_nil, List.length_map] <;> omega)) only [hlv, hdk, hik, e1, e3, ev_fldE, Nat.mul_one, Int.toNat_natCast, exc_int, exc_str, exc_ptr, swp_seq, swp_reg, swp_skip, swp_block, swp_cond, seqK_n, condK_t, evK_some, appK_eq, srun_nil, srun_cons, stepK_call, sk_mv, sk_bin, sk_fld, sk_idxA, sk_load, sk_lenL, get_mk, raw_slot, put_some, wb_nil, ev_mv, bin_lss, ev_loadE, idxA_own, ro_int, ro_str, ro_ptr, ro_own, got_int, got_str, got_ptr, pubs, pubsFrom, List.map_cons, List.map_nil, List.getD_cons_zero, List.getD_cons_succ, List.set_cons_zero, List.set_cons_succ, List.replicate_succ, List.replicate_zero, List.cons_append, List.nil_append, Bool.false_eq_true, Option.map_some, ↓reduceIte, Nat.mul_one]
        refine callK_intro (.inl (h15 ho rfl o1)) ?_
        simp (maxSteps := 2000000) (disch := first | omega | (simp only [List.length_append, List.length_cons, List.length_nil, List.length_map] <;> omega)) only [seqK_n, evK_some, appK_eq, appC_eq, srun_nil, srun_cons, sk_mv, get_mk, raw_slot, put_some, wb_nil, ev_mv, ro_tup, ro2_int, ro2_str, List.map_cons, List.map_nil, List.getD_cons_zero, List.getD_cons_succ, List.set_cons_zero, List.set_cons_succ]
        apply swp_to
        · repeat' first | exact swp_ttI | refine swp_bothI ?_ ?_ | exact ⟨rfl, rfl⟩ | exact rfl | simp (maxSteps := 2000000) (disch := first | omega | (simp only [List.length_append, List.length_cons, List.length_nil, List.length_map] <;> omega)) only [flg_int, flg_str, swp_reg, evK_some, appK_eq, srun_nil, srun_cons, sk_give, sk_ext, get_mk, raw_slot, put_some, wb_nil, ev_give, ev_ext, ro_int, ro_str, List.map_cons, List.map_nil, List.getD_cons_zero, List.getD_cons_succ, List.set_cons_zero, List.set_cons_succ, List.getElem?_cons_zero, List.getElem?_cons_succ, true_and, Bool.false_eq_true, Option.map_some, ↓reduceIte]
        simp (maxSteps := 2000000) (disch := first | omega | (simp only [List.length_append, List.length_cons, List.length_nil, List.length_map] <;> omega)) only [hik, Nat.mul_one, Int.toNat_natCast, exc_int, exc_str, exc_ptr, sk_idxB, idxB_own, swp_seq, swp_reg, seqK_n, evK_some, appK_eq, srun_cons, stepK_call, sk_mv, sk_load, get_mk, raw_slot, put_some, wb_nil, ev_mv, ev_loadE, ro_int, ro_str, ro_ptr, ro_own, got_int, got_str, got_ptr, pubs, pubsFrom, List.map_cons, List.map_nil, List.getD_cons_zero, List.getD_cons_succ, List.set_cons_zero, List.set_cons_succ, Bool.false_eq_true, Option.map_some, ↓reduceIte, Nat.mul_one]
        refine callK_intro (.inl (h15 ho rfl o2)) ?_
        simp (maxSteps := 2000000) (disch := first | omega | (simp only [List.length_append, List.length_cons, List.length_nil, List.length_map] <;> omega)) only [e1, e3, e4, e5, f1, f2, ev_fldE, grd_t, ev_pick, lpK_n, Int.toNat_natCast, flg_int, flg_str, exc_bool, exc_int, exc_str, exc_own, sk_idxB, idxB_ro, swp_seq, swp_reg, swp_skip, swp_cond, seqK_n, blkK_n, condK_f, evK_some, appK_eq, appC_eq, grd_t, srun_nil, srun_cons, stepK_grd, sk_mv, sk_take, sk_give, sk_pick, sk_bin, sk_eqB, sk_fld, sk_load, sk_ext, get_mk, raw_slot, raw_lit, put_some, wb_nil, ev_mv, ev_take, ev_give, ev_pick, ev_eqB, ev_ext, bin_add, bin_eql, bin_neq, bin_eqlS, bin_neqS, ev_loadE, ro_int, ro_bool, ro_str, ro_tup, ro2_int, ro2_str, got_own, got_int, got_bool, got_str, List.map_cons, List.map_nil, List.getD_cons_zero, List.getD_cons_succ, List.set_cons_zero, List.set_cons_succ, List.getElem?_cons_zero, List.getElem?_cons_succ, Bool.false_eq_true, Option.map_some, ↓reduceIte, Bool.not_true, beq_self_eq_true, bne_self_eq_false, wrap_i64]
        refine ⟨_, ?_, ⟨k + 1, by omega, rfl⟩, ?_⟩
        · refine Forget.of ?_
          repeat first | exact fg_e | refine fg_d ?_ | refine fg_k rfl ?_
        · show ((zs.length : Int) - ((k + 1 : Nat) : Int)).toNat < ((zs.length : Int) - (k : Int)).toNat
          omega
      · have f2 : (ad == c.ad) = false := by simpa using q2
        have o2 : openF (vsZ zs) key ad a = ([], 7) := by
          unfold openF; rw [hg]
          have : (c.ad == ad) = false := by rw [Bool.beq_comm]; exact f2
          simp [sdC, this]
        simp (maxSteps := 2000000) (disch := first | omega | (simp only [List.length_append, List.length_cons, List.length_nil, List.length_map] <;> omega)) only [hlv, hdk, hik, e1, e3, ev_fldE, Nat.mul_one, Int.toNat_natCast, exc_int, exc_str, exc_ptr, swp_seq, swp_reg, swp_skip, swp_block, swp_cond, seqK_n, condK_t, evK_some, appK_eq, srun_nil, srun_cons, stepK_call, sk_mv, sk_bin, sk_fld, sk_idxA, sk_load, sk_lenL, get_mk, raw_slot, put_some, wb_nil, ev_mv, bin_lss, ev_loadE, idxA_own, ro_int, ro_str, ro_ptr, ro_own, got_int, got_str, got_ptr, pubs, pubsFrom, List.map_cons, List.map_nil, List.getD_cons_zero, List.getD_cons_succ, List.set_cons_zero, List.set_cons_succ, List.replicate_succ, List.replicate_zero, List.cons_append, List.nil_append, Bool.false_eq_true, Option.map_some, ↓reduceIte, Nat.mul_one]
        refine callK_intro (.inl (h15 ho rfl o1)) ?_
        simp (maxSteps := 2000000) (disch := first | omega | (simp only [List.length_append, List.length_cons, List.length_nil, List.length_map] <;> omega)) only [seqK_n, evK_some, appK_eq, appC_eq, srun_nil, srun_cons, sk_mv, get_mk, raw_slot, put_some, wb_nil, ev_mv, ro_tup, ro2_int, ro2_str, List.map_cons, List.map_nil, List.getD_cons_zero, List.getD_cons_succ, List.set_cons_zero, List.set_cons_succ]
        apply swp_to
        · repeat' first | exact swp_ttI | refine swp_bothI ?_ ?_ | exact ⟨rfl, rfl⟩ | exact rfl | simp (maxSteps := 2000000) (disch := first | omega | (simp only [List.length_append, List.length_cons, List.length_nil, List.length_map] <;> omega)) only [flg_int, flg_str, swp_reg, evK_some, appK_eq, srun_nil, srun_cons, sk_give, sk_ext, get_mk, raw_slot, put_some, wb_nil, ev_give, ev_ext, ro_int, ro_str, List.map_cons, List.map_nil, List.getD_cons_zero, List.getD_cons_succ, List.set_cons_zero, List.set_cons_succ, List.getElem?_cons_zero, List.getElem?_cons_succ, true_and, Bool.false_eq_true, Option.map_some, ↓reduceIte]
        simp (maxSteps := 2000000) (disch := first | omega | (simp only [List.length_append, List.length_cons, List.length_nil, List.length_map] <;> omega)) only [hik, Nat.mul_one, Int.toNat_natCast, exc_int, exc_str, exc_ptr, sk_idxB, idxB_own, swp_seq, swp_reg, seqK_n, evK_some, appK_eq, srun_cons, stepK_call, sk_mv, sk_load, get_mk, raw_slot, put_some, wb_nil, ev_mv, ev_loadE, ro_int, ro_str, ro_ptr, ro_own, got_int, got_str, got_ptr, pubs, pubsFrom, List.map_cons, List.map_nil, List.getD_cons_zero, List.getD_cons_succ, List.set_cons_zero, List.set_cons_succ, Bool.false_eq_true, Option.map_some, ↓reduceIte, Nat.mul_one]
        refine callK_intro (.inl (h15 ho rfl o2)) ?_
        simp (maxSteps := 2000000) (disch := first | omega | (simp only [List.length_append, List.length_cons, List.length_nil, List.length_map] <;> omega)) only [e1, e3, e4, e5, f1, f2, ev_fldE, grd_t, ev_pick, lpK_n, Int.toNat_natCast, flg_int, flg_str, exc_bool, exc_int, exc_str, exc_own, sk_idxB, idxB_ro, swp_seq, swp_reg, swp_skip, swp_cond, seqK_n, blkK_n, condK_f, evK_some, appK_eq, appC_eq, grd_t, srun_nil, srun_cons, stepK_grd, sk_mv, sk_take, sk_give, sk_pick, sk_bin, sk_eqB, sk_fld, sk_load, sk_ext, get_mk, raw_slot, raw_lit, put_some, wb_nil, ev_mv, ev_take, ev_give, ev_pick, ev_eqB, ev_ext, bin_add, bin_eql, bin_neq, bin_eqlS, bin_neqS, ev_loadE, ro_int, ro_bool, ro_str, ro_tup, ro2_int, ro2_str, got_own, got_int, got_bool, got_str, List.map_cons, List.map_nil, List.getD_cons_zero, List.getD_cons_succ, List.set_cons_zero, List.set_cons_succ, List.getElem?_cons_zero, List.getElem?_cons_succ, Bool.false_eq_true, Option.map_some, ↓reduceIte, Bool.not_true, beq_self_eq_true, bne_self_eq_false, Int.reduceBEq, wrap_i64]
        refine ⟨_, ?_, ⟨k + 1, by omega, rfl⟩, ?_⟩
        · refine Forget.of ?_
          repeat first | exact fg_e | refine fg_d ?_ | refine fg_k rfl ?_
        · show ((zs.length : Int) - ((k + 1 : Nat) : Int)).toNat < ((zs.length : Int) - (k : Int)).toNat
          omega
    · have f1 : (key == c.key) = false := by simpa using q1
      have o2 : openF (vsZ zs) key ad a = ([], 7) := by
        unfold openF; rw [hg]
        have : (c.key == key) = false := by rw [Bool.beq_comm]; exact f1
        simp [sdC, this]
      simp (maxSteps := 2000000) (disch := first | omega | (simp only [List.length_append, List.length_cons, List.length_nil, List.length_map] <;> omega)) only [hlv, hdk, hik, e1, e3, ev_fldE, Nat.mul_one, Int.toNat_natCast, exc_int, exc_str, exc_ptr, swp_seq, swp_reg, swp_skip, swp_block, swp_cond, seqK_n, condK_t, evK_some, appK_eq, srun_nil, srun_cons, stepK_call, sk_mv, sk_bin, sk_fld, sk_idxA, sk_load, sk_lenL, get_mk, raw_slot, put_some, wb_nil, ev_mv, bin_lss, ev_loadE, idxA_own, ro_int, ro_str, ro_ptr, ro_own, got_int, got_str, got_ptr, pubs, pubsFrom, List.map_cons, List.map_nil, List.getD_cons_zero, List.getD_cons_succ, List.set_cons_zero, List.set_cons_succ, List.replicate_succ, List.replicate_zero, List.cons_append, List.nil_append, Bool.false_eq_true, Option.map_some, ↓reduceIte, Nat.mul_one]
      refine callK_intro (.inl (h15 ho rfl o1)) ?_
      simp (maxSteps := 2000000) (disch := first | omega | (simp only [List.length_append, List.length_cons, List.length_nil, List.length_map] <;> omega)) only [seqK_n, evK_some, appK_eq, appC_eq, srun_nil, srun_cons, sk_mv, get_mk, raw_slot, put_some, wb_nil, ev_mv, ro_tup, ro2_int, ro2_str, List.map_cons, List.map_nil, List.getD_cons_zero, List.getD_cons_succ, List.set_cons_zero, List.set_cons_succ]
      apply swp_to
      · repeat' first | exact swp_ttI | refine swp_bothI ?_ ?_ | exact ⟨rfl, rfl⟩ | exact rfl | simp (maxSteps := 2000000) (disch := first | omega | (simp only [List.length_append, List.length_cons, List.length_nil, List.length_map] <;> omega)) only [flg_int, flg_str, swp_reg, evK_some, appK_eq, srun_nil, srun_cons, sk_give, sk_ext, get_mk, raw_slot, put_some, wb_nil, ev_give, ev_ext, ro_int, ro_str, List.map_cons, List.map_nil, List.getD_cons_zero, List.getD_cons_succ, List.set_cons_zero, List.set_cons_succ, List.getElem?_cons_zero, List.getElem?_cons_succ, true_and, Bool.false_eq_true, Option.map_some, ↓reduceIte]
      simp (maxSteps := 2000000) (disch := first | omega | (simp only [List.length_append, List.length_cons, List.length_nil, List.length_map] <;> omega)) only [hik, Nat.mul_one, Int.toNat_natCast, exc_int, exc_str, exc_ptr, sk_idxB, idxB_own, swp_seq, swp_reg, seqK_n, evK_some, appK_eq, srun_cons, stepK_call, sk_mv, sk_load, get_mk, raw_slot, put_some, wb_nil, ev_mv, ev_loadE, ro_int, ro_str, ro_ptr, ro_own, got_int, got_str, got_ptr, pubs, pubsFrom, List.map_cons, List.map_nil, List.getD_cons_zero, List.getD_cons_succ, List.set_cons_zero, List.set_cons_succ, Bool.false_eq_true, Option.map_some, ↓reduceIte, Nat.mul_one]
      refine callK_intro (.inl (h15 ho rfl o2)) ?_
      simp (maxSteps := 2000000) (disch := first | omega | (simp only [List.length_append, List.length_cons, List.length_nil, List.length_map] <;> omega)) only [e1, e4, e5, f1, ev_fldE, grd_t, ev_pick, lpK_n, Int.toNat_natCast, flg_int, flg_str, exc_bool, exc_int, exc_str, exc_own, sk_idxB, idxB_ro, swp_seq, swp_reg, swp_skip, swp_cond, seqK_n, blkK_n, condK_f, evK_some, appK_eq, appC_eq, grd_t, srun_nil, srun_cons, stepK_grd, sk_mv, sk_take, sk_give, sk_pick, sk_bin, sk_eqB, sk_fld, sk_load, sk_ext, get_mk, raw_slot, raw_lit, put_some, wb_nil, ev_mv, ev_take, ev_give, ev_pick, ev_eqB, ev_ext, bin_add, bin_eql, bin_neq, bin_neqS, ev_loadE, ro_int, ro_bool, ro_str, ro_tup, ro2_int, ro2_str, got_own, got_int, got_bool, got_str, List.map_cons, List.map_nil, List.getD_cons_zero, List.getD_cons_succ, List.set_cons_zero, List.set_cons_succ, List.getElem?_cons_zero, List.getElem?_cons_succ, Bool.false_eq_true, Option.map_some, ↓reduceIte, Bool.not_true, beq_self_eq_true, bne_self_eq_false, Int.reduceBEq, wrap_i64]
      refine ⟨_, ?_, ⟨k + 1, by omega, rfl⟩, ?_⟩
      · refine Forget.of ?_
        repeat first | exact fg_e | refine fg_d ?_ | refine fg_k rfl ?_
      · show ((zs.length : Int) - ((k + 1 : Nat) : Int)).toNat < ((zs.length : Int) - (k : Int)).toNat
        omega
  subst hkz
  have hdk : decide ((zs.length : Int) < (zs.length : Int)) = false := by simp
  simp (maxSteps := 2000000) (disch := first | omega | (simp only [List.length_append, List.length_cons, List.length_nil, List.length_map] <;> omega)) only [hlv, hdk, lpK_e, exc_int, swp_seq, swp_reg, swp_exit, swp_block, swp_cond, seqK_n, seqK_e, blkK_e, condK_f, evK_some, appK_eq, srun_nil, srun_cons, sk_mv, sk_take, sk_bin, sk_lenL, get_mk, raw_slot, raw_lit, put_some, wb_nil, ev_mv, ev_take, bin_lss, ro_int, got_int, List.map_cons, List.map_nil, List.getD_cons_zero, List.getD_cons_succ, List.set_cons_zero, List.set_cons_succ, List.replicate_succ, List.replicate_zero, List.cons_append, List.nil_append, Bool.false_eq_true, ↓reduceIte]
  -- what was not sealed does not
  refine swp_lp (fun S => ∃ (i : Nat), i ≤ l.length ∧
      S = ⟨[v, .int .i64 key, .str ad, .undef, .undef, .undef, .bool false, .bool true, .bool true, .ptr 3 0, hv', cv, .undef, .undef, .undef, .undef, .undef, .undef, .undef, .undef, .undef, .int .i64 i] ++ List.replicate 219 .undef, Sp [] (vsZ zs)⟩)
      (fun S => match S.get 21 with | .int _ k => ((l.length : Int) - k).toNat | _ => 0)
      ⟨[v, .int .i64 key, .str ad, .undef, .undef, .undef, .bool false, .bool true, .bool true, .ptr 3 0, hv', cv, .undef, .undef, .undef, .undef, .undef, .undef, .undef, .undef, .undef, .int .i64 0] ++ List.replicate 219 .undef, Sp [] (vsZ zs)⟩ ?_ ⟨0, by omega, rfl⟩ ?_
  · refine Forget.of ?_
    repeat first | exact fg_e | refine fg_d ?_ | refine fg_k rfl ?_
  rintro S ⟨i, hi, rfl⟩
  by_cases him : i = l.length
  · subst him
    have hzl : (vsZ zs).s.length = zs.length := by simp [vsZ]
    have ez : ((zs.length : Int) == (zs.length : Int)) = true := by simp
    simp (maxSteps := 2000000) (disch := first | omega | (simp only [List.length_append, List.length_cons, List.length_nil, List.length_map] <;> omega)) only [hd, hla, lpK_e, exc_ptr, swp_seq, swp_reg, swp_exit, swp_cond, seqK_n, seqK_e, blkK_e, condK_f, evK_some, appK_eq, grd_t, srun_nil, srun_cons, stepK_call, stepK_grd, sk_mv, sk_take, sk_bin, sk_lenL, get_mk, raw_slot, put_some, wb_nil, ev_mv, ev_take, bin_lss, ro_int, ro_bool, got_ptr, pubs, pubsFrom, List.map_cons, List.map_nil, List.getD_cons_zero, List.getD_cons_succ, List.set_cons_zero, List.set_cons_succ, List.replicate_succ, List.replicate_zero, List.cons_append, List.nil_append, Bool.false_eq_true, ↓reduceIte]
    refine callK_intro (.inl (h21 rfl)) ?_
    rw [hzl]
    rcases ohv with ⟨rfl, h0⟩ | ⟨_, rfl⟩
    · have ez : ((zs.length : Int) == 0) = true := by simp [h0]
      simp (maxSteps := 2000000) (disch := first | omega | (simp only [List.length_append, List.length_cons, List.length_nil, List.length_map] <;> omega)) only [hlv, grd_t, ev_pick, flg_bool, exc_nilS, swp_ret, seqK_n, evK_some, appK_eq, appC_eq, grd_t, srun_nil, srun_cons, stepK_grd, fin_ret, sk_take, sk_give, sk_pick, sk_bin, sk_lenL, get_mk, raw_slot, raw_lit, put_some, wb_nil, ev_take, ev_give, ev_pick, bin_eql, ro_bool, got_nilS, List.map_cons, List.map_nil, List.getD_cons_zero, List.getD_cons_succ, List.set_cons_zero, List.set_cons_succ, List.length_nil, and_true, Bool.false_eq_true, ↓reduceIte, beq_self_eq_true]
      exact ⟨[], .inr ⟨by simp, by simp, rfl, rfl⟩⟩
    · simp (maxSteps := 2000000) (disch := first | omega | (simp only [List.length_append, List.length_cons, List.length_nil, List.length_map] <;> omega)) only [ez, grd_t, ev_pick, flg_bool, exc_own, swp_ret, seqK_n, evK_some, appK_eq, appC_eq, grd_t, srun_nil, srun_cons, stepK_grd, fin_ret, sk_take, sk_give, sk_pick, sk_bin, sk_lenL, get_mk, raw_slot, raw_lit, put_some, wb_nil, ev_take, ev_give, ev_pick, ev_lenL, bin_eql, ro_bool, got_own, List.map_cons, List.map_nil, List.getD_cons_zero, List.getD_cons_succ, List.set_cons_zero, List.set_cons_succ, List.length_nil, and_true, Bool.false_eq_true, ↓reduceIte]
      exact ⟨[], .inr ⟨by simp, by simp, rfl, rfl⟩⟩
  have hdi : decide ((i : Int) < (l.length : Int)) = true := by simp; omega
  have hil : i < l.length := by omega
  have hvv : v = .sl (l.flatMap fC) l.length .ro := by
    rcases hv with ⟨_, h⟩ | h
    · subst h; simp at hil
    · exact h
  subst hvv
  obtain ⟨c, hc⟩ : ∃ c, c = l[i] := ⟨_, rfl⟩
  have e1 := fC_at hil 1 (by omega)
  have e2 := fC_at hil 2 (by omega)
  have e3 := fC_at hil 3 (by omega)
  rw [← hc] at e1 e2 e3
  change _ = some (SV.int .i64 c.key) at e1
  change _ = some (SV.int .i64 c.num) at e2
  change _ = some (SV.str c.ad) at e3
  simp (maxSteps := 2000000) (disch := first | omega | (simp only [List.length_append, List.length_cons, List.length_nil, List.length_map] <;> omega)) only [hdi, hla, exc_bool, exc_int, swp_seq, swp_reg, swp_skip, swp_block, swp_cond, seqK_n, condK_t, evK_some, appK_eq, srun_nil, srun_cons, sk_mv, sk_take, sk_bin, sk_lenL, get_mk, raw_slot, raw_lit, put_some, wb_nil, ev_mv, ev_take, bin_lss, ro_int, ro_ro, got_int, got_bool, List.map_cons, List.map_nil, List.getD_cons_zero, List.getD_cons_succ, List.set_cons_zero, List.set_cons_succ, List.replicate_succ, List.replicate_zero, List.cons_append, List.nil_append, Bool.false_eq_true, ↓reduceIte]
  refine swp_lp (fun S => ∃ (k : Nat), k ≤ zs.length ∧
      S = ⟨[.sl (l.flatMap fC) l.length .ro, .int .i64 key, .str ad, .undef, .undef, .undef, .bool false, .bool true, .bool true, .ptr 3 0, hv', cv, .undef, .undef, .undef, .undef, .undef, .undef, .undef, .undef, .undef, .int .i64 i, .bool ((zs.take k).any fun z => z.1 == c.num), .int .i64 k] ++ List.replicate 217 .undef, Sp [] (vsZ zs)⟩)
      (fun S => match S.get 23 with | .int _ k => ((zs.length : Int) - k).toNat | _ => 0)
      ⟨[.sl (l.flatMap fC) l.length .ro, .int .i64 key, .str ad, .undef, .undef, .undef, .bool false, .bool true, .bool true, .ptr 3 0, hv', cv, .undef, .undef, .undef, .undef, .undef, .undef, .undef, .undef, .undef, .int .i64 i, .bool false, .int .i64 0] ++ List.replicate 217 .undef, Sp [] (vsZ zs)⟩ ?_ ⟨0, by omega, rfl⟩ ?_
  · refine Forget.of ?_
    repeat first | exact fg_e | refine fg_d ?_ | refine fg_k rfl ?_
  rintro S ⟨k, hk, rfl⟩
  by_cases hkz : k = zs.length
  case neg =>
    have hkl : k < zs.length := by omega
    have hdk : decide ((k : Int) < (zs.length : Int)) = true := by simp; omega
    have hvo := ownL_some ohv hkl
    subst hvo
    have hil2 := fI_len zs
    have hik := fI_at hkl
    have hnx : (zs.take (k + 1)).any (fun z => z.1 == c.num) = ((zs.take k).any (fun z => z.1 == c.num) || (zs[k].1 == c.num)) := by
      rw [← List.take_append_getElem hkl, List.any_append]; simp
    cases hin : (zs.take k).any fun z => z.1 == c.num with
    | true =>
      rw [hin, Bool.true_or] at hnx
      simp (maxSteps := 2000000) (disch := first | omega | (simp only [List.length_append, List.length_cons, List.length_nil, List.length_map] <;> omega)) only [hlv, hdk, grd_t, ev_pick, lpK_n, flg_bool, flg_int, swp_seq, swp_reg, swp_skip, swp_block, swp_cond, seqK_n, blkK_n, condK_t, evK_some, appK_eq, grd_t, srun_nil, srun_cons, stepK_grd, sk_mv, sk_give, sk_pick, sk_bin, sk_lenL, get_mk, raw_slot, raw_lit, put_some, wb_nil, ev_mv, ev_give, ev_pick, bin_add, bin_lss, ro_int, ro_bool, ro_own, List.map_cons, List.map_nil, List.getD_cons_zero, List.getD_cons_succ, List.set_cons_zero, List.set_cons_succ, List.replicate_succ, List.replicate_zero, List.cons_append, List.nil_append, Bool.false_eq_true, ↓reduceIte, reduceCtorEq, wrap_i64]
      refine ⟨_, ?_, ⟨k + 1, by omega, by rw [hnx]⟩, ?_⟩
      · refine Forget.of ?_
        repeat first | exact fg_e | refine fg_d ?_ | refine fg_k rfl ?_
      · show ((zs.length : Int) - ((k + 1 : Nat) : Int)).toNat < ((zs.length : Int) - (k : Int)).toNat
        omega
    | false =>
      rw [hin, Bool.false_or] at hnx
      simp (maxSteps := 2000000) (disch := first | omega | (simp only [List.length_append, List.length_cons, List.length_nil, List.length_map] <;> omega)) only [hlv, hdk, hik, e2, ev_fldE, Nat.mul_one, grd_t, ev_pick, lpK_n, Int.toNat_natCast, flg_bool, flg_int, swp_seq, swp_reg, swp_skip, swp_block, swp_cond, seqK_n, blkK_n, condK_t, evK_some, appK_eq, grd_t, srun_nil, srun_cons, stepK_grd, sk_mv, sk_give, sk_pick, sk_bin, sk_fld, sk_idxA, sk_load, sk_lenL, get_mk, raw_slot, raw_lit, put_some, wb_nil, ev_mv, ev_give, ev_pick, bin_add, bin_eql, bin_lss, ev_loadE, idxA_ro, ro_int, ro_bool, ro_ro, ro_own, List.map_cons, List.map_nil, List.getD_cons_zero, List.getD_cons_succ, List.set_cons_zero, List.set_cons_succ, List.replicate_succ, List.replicate_zero, List.cons_append, List.nil_append, Bool.false_eq_true, Option.map_some, ↓reduceIte, Nat.mul_one, wrap_i64]
      refine ⟨_, ?_, ⟨k + 1, by omega, by rw [hnx]⟩, ?_⟩
      · refine Forget.of ?_
        repeat first | exact fg_e | refine fg_d ?_ | refine fg_k rfl ?_
      · show ((zs.length : Int) - ((k + 1 : Nat) : Int)).toNat < ((zs.length : Int) - (k : Int)).toNat
        omega
  subst hkz
  have hdk : decide ((zs.length : Int) < (zs.length : Int)) = false := by simp
  rw [List.take_length, ← in_iff]
  cases hm : mget c.num (vsZ zs).s with
  | none =>
    have o1 : openF (vsZ zs) c.key c.ad c.num = ([], 7) := by unfold openF; rw [hm]
    have o2 : szF (vsZ zs) c.num = 0 := by unfold szF; rw [hm]
    simp (maxSteps := 2000000) (disch := first | omega | (simp only [List.length_append, List.length_cons, List.length_nil, List.length_map] <;> omega)) only [hlv, hdk, e1, e2, e3, ev_fldE, Option.isSome_none, lpK_e, Int.toNat_natCast, exc_int, exc_str, exc_ptr, swp_seq, swp_reg, swp_exit, swp_cond, seqK_n, seqK_e, blkK_e, condK_f, evK_some, appK_eq, srun_nil, srun_cons, stepK_call, sk_mv, sk_bin, sk_fld, sk_idxA, sk_load, sk_lenL, get_mk, raw_slot, put_some, wb_nil, ev_mv, bin_lss, ev_loadE, idxA_ro, ro_int, ro_str, ro_ptr, ro_ro, got_int, got_str, got_ptr, pubs, pubsFrom, List.map_cons, List.map_nil, List.getD_cons_zero, List.getD_cons_succ, List.set_cons_zero, List.set_cons_succ, List.replicate_succ, List.replicate_zero, List.cons_append, List.nil_append, Bool.false_eq_true, Option.map_some, ↓reduceIte]
    refine callK_intro (.inl (h15 ho rfl o1)) ?_
    simp (maxSteps := 2000000) (disch := first | omega | (simp only [List.length_append, List.length_cons, List.length_nil, List.length_map] <;> omega)) only [seqK_n, evK_some, appK_eq, appC_eq, srun_nil, srun_cons, sk_mv, get_mk, raw_slot, put_some, wb_nil, ev_mv, ro_tup, ro2_int, ro2_str, List.map_cons, List.map_nil, List.getD_cons_zero, List.getD_cons_succ, List.set_cons_zero, List.set_cons_succ]
    apply swp_to
    · repeat' first | exact swp_ttI | refine swp_bothI ?_ ?_ | exact ⟨rfl, rfl⟩ | exact rfl | simp (maxSteps := 2000000) (disch := first | omega | (simp only [List.length_append, List.length_cons, List.length_nil, List.length_map] <;> omega)) only [flg_int, flg_str, swp_reg, evK_some, appK_eq, srun_nil, srun_cons, sk_give, sk_ext, get_mk, raw_slot, put_some, wb_nil, ev_give, ev_ext, ro_int, ro_str, List.map_cons, List.map_nil, List.getD_cons_zero, List.getD_cons_succ, List.set_cons_zero, List.set_cons_succ, List.getElem?_cons_zero, List.getElem?_cons_succ, true_and, Bool.false_eq_true, Option.map_some, ↓reduceIte]
    simp (maxSteps := 2000000) (disch := first | omega | (simp only [List.length_append, List.length_cons, List.length_nil, List.length_map] <;> omega)) only [e2, ev_fldE, grd_t, ev_pick, Int.toNat_natCast, exc_bool, exc_int, exc_ptr, exc_ro, sk_idxB, idxB_ro, swp_seq, swp_reg, seqK_n, evK_some, appK_eq, grd_t, srun_cons, stepK_call, stepK_grd, sk_mv, sk_take, sk_pick, sk_bin, sk_un, sk_fld, sk_load, get_mk, raw_slot, raw_lit, put_some, wb_nil, ev_mv, ev_take, ev_pick, ev_not, bin_neq, ev_loadE, ro_int, ro_bool, got_roo, got_int, got_bool, got_ptr, pubs, pubsFrom, List.map_cons, List.map_nil, List.getD_cons_zero, List.getD_cons_succ, List.set_cons_zero, List.set_cons_succ, Bool.false_eq_true, Option.map_some, ↓reduceIte, Bool.not_false, bne_self_eq_false]
    refine callK_intro (.inl (h19 ho rfl o2)) ?_
    simp (maxSteps := 2000000) (disch := first | omega | (simp only [List.length_append, List.length_cons, List.length_nil, List.length_map] <;> omega)) only [grd_t, ev_pick, lpK_n, flg_int, swp_reg, swp_skip, swp_cond, seqK_n, blkK_n, condK_f, evK_some, appK_eq, appC_eq, grd_t, srun_nil, srun_cons, stepK_grd, sk_mv, sk_give, sk_pick, sk_bin, sk_eqB, get_mk, raw_slot, raw_lit, put_some, wb_nil, ev_mv, ev_give, ev_pick, ev_eqB, bin_add, bin_gtr, ro_int, ro_bool, List.map_cons, List.map_nil, List.getD_cons_zero, List.getD_cons_succ, List.set_cons_zero, List.set_cons_succ, Bool.false_eq_true, ↓reduceIte, decide_false, Bool.not_true, beq_self_eq_true, gt_iff_lt, Int.reduceLT, wrap_i64]
    refine ⟨_, ?_, ⟨i + 1, by omega, rfl⟩, ?_⟩
    · refine Forget.of ?_
      repeat first | exact fg_e | refine fg_d ?_ | refine fg_k rfl ?_
    · show ((l.length : Int) - ((i + 1 : Nat) : Int)).toNat < ((l.length : Int) - (i : Int)).toNat
      omega
  | some d =>
    obtain ⟨z, hzm, rfl⟩ := mget_vs hm
    obtain ⟨⟨y, q⟩, o1⟩ : ∃ o, openF (vsZ zs) c.key c.ad c.num = o := ⟨_, rfl⟩
    have o2 : szF (vsZ zs) c.num = sizeF (bucketF z.2.plain.length) := by unfold szF; rw [hm]; rfl
    have hp := sizePos' (hz.bkt z hzm)
    have e6 : decide (0 < sizeF (bucketF z.2.plain.length)) = true := by simpa using hp
    simp (maxSteps := 2000000) (disch := first | omega | (simp only [List.length_append, List.length_cons, List.length_nil, List.length_map] <;> omega)) only [hlv, hdk, e1, e2, e3, ev_fldE, Option.isSome_some, lpK_e, Int.toNat_natCast, exc_int, exc_str, exc_ptr, swp_seq, swp_reg, swp_exit, swp_cond, seqK_n, seqK_e, blkK_e, condK_f, evK_some, appK_eq, srun_nil, srun_cons, stepK_call, sk_mv, sk_bin, sk_fld, sk_idxA, sk_load, sk_lenL, get_mk, raw_slot, put_some, wb_nil, ev_mv, bin_lss, ev_loadE, idxA_ro, ro_int, ro_str, ro_ptr, ro_ro, got_int, got_str, got_ptr, pubs, pubsFrom, List.map_cons, List.map_nil, List.getD_cons_zero, List.getD_cons_succ, List.set_cons_zero, List.set_cons_succ, List.replicate_succ, List.replicate_zero, List.cons_append, List.nil_append, Bool.false_eq_true, Option.map_some, ↓reduceIte]
    refine callK_intro (.inl (h15 ho rfl o1)) ?_
    simp (maxSteps := 2000000) (disch := first | omega | (simp only [List.length_append, List.length_cons, List.length_nil, List.length_map] <;> omega)) only [seqK_n, evK_some, appK_eq, appC_eq, srun_nil, srun_cons, sk_mv, get_mk, raw_slot, put_some, wb_nil, ev_mv, ro_tup, ro2_int, ro2_str, List.map_cons, List.map_nil, List.getD_cons_zero, List.getD_cons_succ, List.set_cons_zero, List.set_cons_succ]
    apply swp_to
    · repeat' first | exact swp_ttI | refine swp_bothI ?_ ?_ | exact ⟨rfl, rfl⟩ | exact rfl | simp (maxSteps := 2000000) (disch := first | omega | (simp only [List.length_append, List.length_cons, List.length_nil, List.length_map] <;> omega)) only [flg_int, flg_str, swp_reg, evK_some, appK_eq, srun_nil, srun_cons, sk_give, sk_ext, get_mk, raw_slot, put_some, wb_nil, ev_give, ev_ext, ro_int, ro_str, List.map_cons, List.map_nil, List.getD_cons_zero, List.getD_cons_succ, List.set_cons_zero, List.set_cons_succ, List.getElem?_cons_zero, List.getElem?_cons_succ, true_and, Bool.false_eq_true, Option.map_some, ↓reduceIte]
    simp (maxSteps := 2000000) (disch := first | omega | (simp only [List.length_append, List.length_cons, List.length_nil, List.length_map] <;> omega)) only [e2, ev_fldE, grd_t, ev_pick, Int.toNat_natCast, exc_bool, exc_int, exc_ptr, exc_ro, sk_idxB, idxB_ro, swp_seq, swp_reg, seqK_n, evK_some, appK_eq, grd_t, srun_cons, stepK_call, stepK_grd, sk_mv, sk_take, sk_pick, sk_un, sk_fld, sk_load, get_mk, raw_slot, raw_lit, put_some, wb_nil, ev_mv, ev_take, ev_pick, ev_not, ev_loadE, ro_int, ro_bool, got_roo, got_int, got_bool, got_ptr, pubs, pubsFrom, List.map_cons, List.map_nil, List.getD_cons_zero, List.getD_cons_succ, List.set_cons_zero, List.set_cons_succ, Bool.false_eq_true, Option.map_some, ↓reduceIte, Bool.not_true]
    refine callK_intro (.inl (h19 ho rfl o2)) ?_
    simp (maxSteps := 2000000) (disch := first | omega | (simp only [List.length_append, List.length_cons, List.length_nil, List.length_map] <;> omega)) only [e6, grd_t, ev_pick, lpK_n, flg_int, swp_reg, swp_skip, swp_cond, seqK_n, blkK_n, condK_f, evK_some, appK_eq, appC_eq, grd_t, srun_nil, srun_cons, stepK_grd, sk_mv, sk_give, sk_pick, sk_bin, sk_eqB, get_mk, raw_slot, raw_lit, put_some, wb_nil, ev_mv, ev_give, ev_pick, ev_eqB, bin_add, bin_gtr, ro_int, ro_bool, List.map_cons, List.map_nil, List.getD_cons_zero, List.getD_cons_succ, List.set_cons_zero, List.set_cons_succ, Bool.false_eq_true, ↓reduceIte, Bool.not_true, beq_self_eq_true, gt_iff_lt, wrap_i64]
    refine ⟨_, ?_, ⟨i + 1, by omega, rfl⟩, ?_⟩
    · refine Forget.of ?_
      repeat first | exact fg_e | refine fg_d ?_ | refine fg_k rfl ?_
    · show ((l.length : Int) - ((i + 1 : Nat) : Int)).toNat < ((l.length : Int) - (i : Int)).toNat
      omega
end Go.Sh.F
