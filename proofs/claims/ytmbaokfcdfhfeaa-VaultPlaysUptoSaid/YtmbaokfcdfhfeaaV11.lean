/-
  VaultKeeps, in the shadow machine.
-/
import Derived.Test.YtmbaokfcdfhfeaaV9
set_option linter.unusedSimpArgs false
set_option linter.unusedVariables false
namespace Go.Sh.F
theorem app_keep {κ α : Type} [BEq κ] {k : κ} {x : α} {l m : List (κ × α)} (h : mget k l = some x) : mget k (l ++ m) = some x := by
  rw [mget_app, h]; rfl
theorem seal_new (V : VS) (hl : V.s.length < 4294967296) (nonce : Int) : mget (drawF (isS V) V.s.length (maskF nonce)) V.s = none := by
  have := isS_free V hl nonce
  unfold isS at this
  cases h : mget (drawF (fun x => (mget x V.s).isSome) V.s.length (maskF nonce)) V.s with
  | none => exact h
  | some _ => rw [h] at this; cases this
theorem seal_keep {V : VS} (hl : V.s.length < 4294967296) {key : Int} {ad plain : List UInt8} {nonce h : Int} {d : Sd} (hd : mget h V.s = some d) : mget h (sealF V key ad plain nonce).2.s = some d := by
  unfold sealF
  split
  · exact hd
  · split
    · exact hd
    · show mget h (mput _ _ V.s) = _
      rw [mput_fresh (seal_new V hl nonce)]
      exact app_keep hd
theorem seal_len {V : VS} (hl : V.s.length < 4294967296) {key : Int} {ad plain : List UInt8} {nonce : Int} : (sealF V key ad plain nonce).2.s.length ≤ V.s.length + 1 ∧ (sealF V key ad plain nonce).2.n = V.n ∧ (sealF V key ad plain nonce).2.t = V.t := by
  unfold sealF
  split
  · exact ⟨by simp, rfl, rfl⟩
  · split
    · exact ⟨by simp, rfl, rfl⟩
    · refine ⟨?_, rfl, rfl⟩
      show (mput _ _ V.s).length ≤ _
      rw [mput_fresh (seal_new V hl nonce)]
      simp
theorem name_new (V : VS) (hl : V.t.length < 4294967296) (nonce : Int) : isT V (drawF (isT V) V.t.length (maskF nonce)) = false := isT_free V hl nonce
theorem mput_len {κ α : Type} [BEq κ] {k : κ} {x : α} : ∀ {l : List (κ × α)}, (mput k x l).length ≤ l.length + 1
  | [] => by simp [mput]
  | p :: l => by
    simp only [mput]
    split
    · simp
    · have := mput_len (k := k) (x := x) (l := l); simp; omega
theorem name_keep {V : VS} {key k0 : Int} {label l0 : List UInt8} {nonce n : Int} (h : mget (k0, l0) V.n = some n) : mget (k0, l0) (nameF V key label nonce).2.n = some n := by
  unfold nameF
  cases hm : mget (key, label) V.n with
  | some x => exact h
  | none =>
    simp only
    split
    · exact h
    · show mget (k0, l0) (mput _ _ V.n) = _
      rw [mput_fresh hm]
      exact app_keep h
theorem name_len {V : VS} {key : Int} {label : List UInt8} {nonce : Int} : (nameF V key label nonce).2.s = V.s ∧ (nameF V key label nonce).2.n.length ≤ V.n.length + 1 ∧ (nameF V key label nonce).2.t.length ≤ V.t.length + 1 := by
  unfold nameF
  cases hm : mget (key, label) V.n with
  | some x => exact ⟨rfl, by simp, by simp⟩
  | none =>
    simp only
    split
    · exact ⟨rfl, by simp, by simp⟩
    · exact ⟨rfl, mput_len, mput_len⟩
theorem name_found {V : VS} {key : Int} {label : List UInt8} {nonce n : Int} (h : mget (key, label) V.n = some n) : nameF V key label nonce = ((n, 0), V) := by unfold nameF; rw [h]
/-- What stays. -/
structure Kp (c : Cl) (h n : Int) (ok : Bool) (i : Nat) (V : VS) : Prop where
  name : mget (c.key, c.ad) V.n = some n
  kept : ok = true → mget h V.s = some (c.key, c.ad, c.plain)
  ls : V.s.length ≤ i + 1
  ln : V.n.length ≤ i + 1
  lt : V.t.length ≤ i + 1
theorem Kp.sealed {c : Cl} {h n : Int} {ok : Bool} {i : Nat} {V : VS} (k : Kp c h n ok i V) (hi : i ≤ 1000) (key : Int) (ad plain : List UInt8) (nonce : Int) : Kp c h n ok (i + 1) (sealF V key ad plain nonce).2 := by
  have hl : V.s.length < 4294967296 := by have := k.ls; omega
  obtain ⟨h1, h2, h3⟩ := seal_len hl (key := key) (ad := ad) (plain := plain) (nonce := nonce)
  have := k.ls
  have := k.ln
  have := k.lt
  exact ⟨by rw [h2]; exact k.name, fun e => seal_keep hl (k.kept e), by omega, by rw [h2]; omega, by rw [h3]; omega⟩
theorem Kp.named {c : Cl} {h n : Int} {ok : Bool} {i : Nat} {V : VS} (k : Kp c h n ok i V) (key : Int) (label : List UInt8) (nonce : Int) : Kp c h n ok (i + 1) (nameF V key label nonce).2 := by
  obtain ⟨h1, h2, h3⟩ := name_len (V := V) (key := key) (label := label) (nonce := nonce)
  have := k.ls
  have := k.ln
  have := k.lt
  exact ⟨name_keep k.name, fun e => by rw [h1]; exact k.kept e, by rw [h1]; omega, by omega, by omega⟩
theorem Kp.next {c : Cl} {h n : Int} {ok : Bool} {i : Nat} {V : VS} (k : Kp c h n ok i V) : Kp c h n ok (i + 1) V := by
  have := k.ls
  have := k.ln
  have := k.lt
  exact ⟨k.name, k.kept, by omega, by omega, by omega⟩
def K1 (c : Cl) : List Ob := [.cells (fC c)]
theorem K1_ok (c : Cl) : okSt (K1 c) := by simp [okSt, K1, obOk, fC, idOks, idOk]
theorem sizePos2 {n : Nat} (h : 0 ≤ bucketF n) : 0 < sizeF (bucketF n) := by
  have : bucketF n = -1 ∨ bucketF n = 0 ∨ bucketF n = 1 ∨ bucketF n = 2 ∨ bucketF n = 3 := by
    unfold bucketF
    split
    · exact .inl rfl
    · repeat' split
      all_goals simp
  rcases this with e | e | e | e | e <;> rw [e] at h ⊢ <;> first | (exfalso; omega) | decide
set_option maxHeartbeats 8000000 in
set_option maxRecDepth 50000 in
theorem fKeeps (c : Cl) (v : SV) (l : List Cl) (hv : rdR fC v l) (hl : l.length ≤ 1048576) (hc : c.ad.length ≤ 1048576 ∧ c.plain.length ≤ 1048576) (hs : ∀ c ∈ l, c.ad.length ≤ 1048576 ∧ c.plain.length ≤ 1048576) :
    swpF O49 sf7 [.agg (fC c), v] [] (fun r _ => r = .bool true) := by
  have ho := K1_ok c
  obtain ⟨hro, hgot, hexc, hflg, hla⟩ := rdR_facts hv
  have b1 : ∀ st, ev st .box [.agg (fC c)] = some (.ptr st.length 0, [], st ++ [.cells (fC c)]) := fun _ => rfl
  have l1 : ev (K1 c) (.load 5 true) [.ptr 0 0] = some (.agg (fC c), [], K1 c) := rfl
  have hst : [Ob.cells (fC c)] = K1 c := rfl
  have hb5 : ∀ st, ev st (.bsl 5 1 [.int .i64 0, .int .i64 0, .int .i64 0, .str [], .str []] [0]) [.agg (fC c)] = some (.sl (fC c) 1 (.excl 5), [], st) := fun _ => rfl
  have hb0 : ∀ st, ev st (.bsl 5 0 [.int .i64 0, .int .i64 0, .int .i64 0, .str [], .str []] []) [] = some (.sl [] 0 (.excl 5), [], st) := fun _ => rfl
  have h5 := fC_len l
  have hc5 : (fC c).length = 1 * 5 := rfl
  have ha1 : ∀ st, ev st (.app 5 56 [.int .i64 0, .int .i64 0, .int .i64 0, .str [], .str []]) [.sl [] 0 (.excl 5), v] = some (.sl (l.flatMap fC) l.length (.excl 5), [(0, .undef)], st) := by
    intro st
    rcases hv with ⟨rfl, rfl⟩ | rfl
    · exact app_excl_nil (by simp) (by simp) (by simp)
    · have := app_excl (st := st) (z := [.int .i64 0, .int .i64 0, .int .i64 0, .str [], .str []]) (xs := []) (ys := l.flatMap fC) (n := 0) (m := l.length) (es := 5) (bytes := 56) (f := .ro) rfl h5 (by omega) (by omega)
      simpa using this
  have ha2 : ∀ st, ev st (.app 5 56 [.int .i64 0, .int .i64 0, .int .i64 0, .str [], .str []]) [.sl (l.flatMap fC) l.length (.excl 5), .sl (fC c) 1 (.excl 5)] = some (.sl ((l ++ [c]).flatMap fC) (l.length + 1) (.excl 5), [(0, .undef)], st) := by
    intro st
    have := app_excl (st := st) (z := [.int .i64 0, .int .i64 0, .int .i64 0, .str [], .str []]) (xs := l.flatMap fC) (ys := fC c) (n := l.length) (m := 1) (es := 5) (bytes := 56) (f := .excl 5) h5 rfl (by omega) (by omega)
    simpa using this
  simp (maxSteps := 2000000) (disch := first | omega | (simp only [List.length_append, List.length_cons, List.length_nil, List.length_map] <;> omega)) only [sf7, b1, flg_bool, swp_seq, swp_reg, seqK_n, evK_some, appK_eq, srun_nil, srun_cons, stepK_call, swpF_eq, sk_give, sk_box, get_mk, raw_slot, raw_lit, put_some, wb_nil, ev_give, ro_bool, pubs, pubsFrom, List.map_cons, List.map_nil, List.getD_cons_zero, List.set_cons_zero, List.set_cons_succ, List.length_cons, List.length_nil, List.replicate_succ, List.replicate_zero, List.cons_append, List.nil_append, Nat.reduceAdd, Nat.reduceSub, Bool.false_eq_true, ↓reduceIte, Nat.zero_add]
  rw [hst]
  refine callK_intro (h10 ho) ?_
  simp (maxSteps := 2000000) (disch := first | omega | (simp only [List.length_append, List.length_cons, List.length_nil, List.length_map] <;> omega)) only [l1, hb0, hb5, ha1, ha2, hro, pub_excl2, flg_bool, exc_excl, swp_seq, swp_reg, seqK_n, evK_some, appK_eq, appC_eq, srun_nil, srun_cons, stepK_call, sk_mv, sk_give, sk_load, sk_bsl, sk_app, get_mk, raw_slot, put_some, wb_nil, wb_cons, ev_mv, ev_give, ro_bool, got_excl, pubs, pubsFrom, List.map_cons, List.map_nil, List.getD_cons_zero, List.getD_cons_succ, List.set_cons_zero, List.set_cons_succ, List.getElem?_cons_zero, Bool.false_eq_true, ↓reduceIte]
  refine callK_intro (.inl (few_ok (l := l ++ [c]) (.inr (by simp)) (by simp; omega) (by
    intro x hx
    rcases List.mem_append.1 hx with hx | hx
    · have := hs x hx; omega
    · rw [List.mem_singleton.1 hx]; omega) _)) ?_
  simp (maxSteps := 2000000) (disch := first | omega | (simp only [List.length_append, List.length_cons, List.length_nil, List.length_map] <;> omega)) only [flg_bool, swp_seq, swp_reg, seqK_n, evK_some, appK_eq, appC_eq, srun_nil, srun_cons, stepK_call, sk_give, get_mk, raw_slot, put_some, wb_nil, wb_cons, ev_give, ro_bool, pubs, pubsFrom, List.map_cons, List.map_nil, List.getD_cons_zero, List.getD_cons_succ, List.set_cons_zero, List.set_cons_succ, List.getElem?_cons_zero, Bool.false_eq_true, ↓reduceIte]
  refine callK_intro (.inl (h12 _)) ?_
  cases hf : fewF (l ++ [c]) with
  | false =>
    simp (maxSteps := 2000000) (disch := first | omega | (simp only [List.length_append, List.length_cons, List.length_nil, List.length_map] <;> omega)) only [grd_t, ev_pick, flg_bool, flg_ptr, exc_bool, exc_ptr, swp_seq, swp_reg, swp_ret, swp_cond, seqK_n, seqK_r, condK_t, evK_some, appK_eq, appC_eq, grd_t, srun_nil, srun_cons, stepK_grd, fin_ret, sk_mv, sk_take, sk_give, sk_pick, sk_eqN, sk_un, get_mk, raw_slot, raw_lit, put_some, wb_nil, ev_mv, ev_take, ev_give, ev_pick, ev_not, ev_eqNp2, ro_bool, ro_ptr, got_bool, got_ptr, List.map_cons, List.map_nil, List.getD_cons_zero, List.getD_cons_succ, List.set_cons_zero, List.set_cons_succ, List.length_nil, and_true, Bool.false_eq_true, ↓reduceIte, Bool.not_false]
    exact ⟨[], .inr ⟨by simp, by simp, rfl, rfl⟩⟩
  | true =>
  have hf2 : l.length + 1 ≤ 100 := by
    unfold fewF at hf
    simp only [Bool.and_eq_true, decide_eq_true_eq, List.length_append, List.length_cons, List.length_nil] at hf
    exact hf.2
  have g0 : ∀ V, (Sp (K1 c) V)[0]? = some (.cells [.int .i64 c.which, .int .i64 c.key, .int .i64 c.num, .str c.ad, .str c.plain]) := fun V => get_app (st := K1 c) rfl
  -- what is sealed, and named, first
  obtain ⟨h, e, V1, r1, hok⟩ : ∃ h e V1, sealF V0 c.key c.ad c.plain c.num = ((h, e), V1) ∧ ((e = 5 ∧ h = 0 ∧ V1 = V0) ∨ (e = 0 ∧ 0 ≤ bucketF c.plain.length ∧ V1 = ⟨[(h, c.key, c.ad, c.plain)], [], []⟩)) := by
    rcases bkt_len c.plain with hb | hb
    · exact ⟨0, 5, V0, seal_no hb, .inl ⟨rfl, rfl, rfl⟩⟩
    · exact ⟨_, 0, _, seal_yes (by omega) (by decide), .inr ⟨rfl, hb, rfl⟩⟩
  have hV1 : V1.s.length ≤ 1 ∧ V1.n = [] ∧ V1.t = [] := by
    rcases hok with ⟨_, _, rfl⟩ | ⟨_, _, rfl⟩
    · exact ⟨by decide, rfl, rfl⟩
    · exact ⟨by simp, rfl, rfl⟩
  obtain ⟨n, V2, r2, hV2⟩ : ∃ n V2, nameF V1 c.key c.ad c.num = ((n, 0), V2) ∧ V2.s = V1.s ∧ V2.n = [((c.key, c.ad), n)] ∧ V2.t.length = 1 := by
    obtain ⟨_, h2, h3⟩ := hV1
    refine ⟨drawF (isT V1) V1.t.length (maskF c.num), { V1 with n := mput (c.key, c.ad) (drawF (isT V1) V1.t.length (maskF c.num)) V1.n, t := mput (drawF (isT V1) V1.t.length (maskF c.num)) true V1.t }, ?_, rfl, ?_, ?_⟩
    · unfold nameF
      rw [h2]
      simp only [mget, List.length_nil]
      rw [if_neg (by omega)]
    · show mput _ _ V1.n = _
      rw [h2]; rfl
    · show (mput _ _ V1.t).length = 1
      rw [h3]; rfl
  have kp : Kp c h n (e == 0) 0 V2 := by
    obtain ⟨h1, h2, h3⟩ := hV2
    refine ⟨by rw [h2]; simp [mget], fun he => ?_, by rw [h1]; omega, by rw [h2]; simp, by omega⟩
    rw [h1]
    rcases hok with ⟨rfl, _⟩ | ⟨_, _, rfl⟩
    · simp at he
    · simp [mget]
  obtain ⟨z, r3⟩ : ∃ z, szF V2 h = z := ⟨_, rfl⟩
  have hz : e = 0 → z = sizeF (bucketF c.plain.length) := by
    intro he
    have := kp.kept (by rw [he]; rfl)
    rw [← r3]
    unfold szF
    rw [this]
  simp (maxSteps := 2000000) (disch := first | omega | (simp only [List.length_append, List.length_cons, List.length_nil, List.length_map] <;> omega)) only [g0, grd_t, ev_pick, flg_ptr, exc_bool, exc_int, exc_str, exc_ptr, swp_seq, swp_reg, swp_skip, swp_cond, seqK_n, condK_f, evK_some, appK_eq, appC_eq, grd_t, srun_nil, srun_cons, stepK_call, stepK_grd, sk_mv, sk_take, sk_give, sk_pick, sk_eqN, sk_un, sk_fld, sk_load, get_mk, raw_slot, raw_lit, put_some, wb_nil, ev_mv, ev_take, ev_give, ev_pick, ev_not, ev_fld, ev_eqNp2, ev_ldP, ldP_some, ro_int, ro_bool, ro_str, ro_ptr, got_int, got_bool, got_str, got_ptr, pubs, pubsFrom, List.map_cons, List.map_nil, List.getD_cons_zero, List.getD_cons_succ, List.set_cons_zero, List.set_cons_succ, List.getElem?_cons_zero, List.getElem?_cons_succ, Bool.false_eq_true, Option.map_some, ↓reduceIte, Nat.zero_add, Bool.not_true]
  refine callK_intro (.inl (h13 ho rfl (by decide) r1)) ?_
  simp (maxSteps := 2000000) (disch := first | omega | (simp only [List.length_append, List.length_cons, List.length_nil, List.length_map] <;> omega)) only [g0, flg_int, exc_int, exc_str, exc_ptr, swp_seq, swp_reg, seqK_n, evK_some, appK_eq, appC_eq, srun_nil, srun_cons, stepK_call, sk_mv, sk_give, sk_fld, sk_load, sk_ext, get_mk, raw_slot, put_some, wb_nil, ev_mv, ev_give, ev_fld, ev_ext, ev_ldP, ldP_some, ro_int, ro_str, ro_ptr, ro_tup, ro2_int, got_int, got_str, got_ptr, pubs, pubsFrom, List.map_cons, List.map_nil, List.getD_cons_zero, List.getD_cons_succ, List.set_cons_zero, List.set_cons_succ, List.getElem?_cons_zero, List.getElem?_cons_succ, Bool.false_eq_true, Option.map_some, ↓reduceIte, Nat.zero_add]
  refine callK_intro (.inl (h17 ho rfl (by rw [hV1.2.2]; decide) r2)) ?_
  simp (maxSteps := 2000000) (disch := first | omega | (simp only [List.length_append, List.length_cons, List.length_nil, List.length_map] <;> omega)) only [flg_int, exc_int, exc_ptr, swp_seq, swp_reg, seqK_n, evK_some, appK_eq, appC_eq, srun_nil, srun_cons, stepK_call, sk_mv, sk_give, sk_ext, get_mk, raw_slot, put_some, wb_nil, ev_mv, ev_give, ev_ext, ro_int, ro_ptr, ro_tup, ro2_int, got_int, got_ptr, pubs, pubsFrom, List.map_cons, List.map_nil, List.getD_cons_zero, List.getD_cons_succ, List.set_cons_zero, List.set_cons_succ, List.getElem?_cons_zero, List.getElem?_cons_succ, Bool.false_eq_true, Option.map_some, ↓reduceIte]
  refine callK_intro (.inl (h19 ho rfl r3)) ?_
  simp (maxSteps := 2000000) (disch := first | omega | (simp only [List.length_append, List.length_cons, List.length_nil, List.length_map] <;> omega)) only [flg_int, exc_int, swp_seq, swp_reg, swp_block, seqK_n, evK_some, appK_eq, appC_eq, srun_nil, srun_cons, sk_take, sk_give, get_mk, raw_slot, raw_lit, put_some, wb_nil, ev_take, ev_give, ro_int, got_int, List.map_cons, List.map_nil, List.getD_cons_zero, List.getD_cons_succ, List.set_cons_zero, List.set_cons_succ, Bool.false_eq_true, ↓reduceIte]
  refine swp_lp (fun S => ∃ (i : Nat) (V : VS), i ≤ l.length ∧ Kp c h n (e == 0) i V ∧
      S = ⟨[.undef, v, .ptr 0 0, .undef, .bool false, .bool true, .bool true, .ptr 4 0, .int .i64 h, .int .i64 e, .int .i64 n, .int .i64 0, .int .i64 z, .int .i64 i] ++ List.replicate 192 .undef, Sp (K1 c) V⟩)
      (fun S => match S.get 13 with | .int _ k => ((l.length : Int) - k).toNat | _ => 0)
      ⟨[.undef, v, .ptr 0 0, .undef, .bool false, .bool true, .bool true, .ptr 4 0, .int .i64 h, .int .i64 e, .int .i64 n, .int .i64 0, .int .i64 z, .int .i64 0] ++ List.replicate 192 .undef, Sp (K1 c) V2⟩ ?_ ⟨0, V2, by omega, kp, rfl⟩ ?_
  · refine Forget.of ?_
    repeat first | exact fg_e | refine fg_d ?_ | refine fg_k rfl ?_
  rintro S ⟨i, V, hi, k, rfl⟩
  by_cases him : i = l.length
  · subst him
    have hd : decide ((l.length : Int) < (l.length : Int)) = false := by simp
    have r4 : ∀ nonce, nameF V c.key c.ad nonce = ((n, 0), V) := fun nonce => name_found k.name
    have en : (n != n) = false := by simp
    simp (maxSteps := 2000000) (disch := first | omega | (simp only [List.length_append, List.length_cons, List.length_nil, List.length_map] <;> omega)) only [hd, hla, hro, g0, lpK_e, exc_int, exc_str, exc_ptr, swp_seq, swp_reg, swp_exit, swp_cond, seqK_n, seqK_e, blkK_e, condK_f, evK_some, appK_eq, srun_nil, srun_cons, stepK_call, sk_mv, sk_bin, sk_fld, sk_load, sk_lenL, get_mk, raw_slot, raw_lit, put_some, wb_nil, ev_mv, ev_fld, bin_add, bin_lss, ev_ldP, ldP_some, ro_int, ro_str, ro_ptr, got_int, got_str, got_ptr, pubs, pubsFrom, List.map_cons, List.map_nil, List.getD_cons_zero, List.getD_cons_succ, List.set_cons_zero, List.set_cons_succ, List.getElem?_cons_zero, List.getElem?_cons_succ, List.replicate_succ, List.replicate_zero, List.cons_append, List.nil_append, Bool.false_eq_true, Option.map_some, ↓reduceIte, Nat.zero_add]
    refine callK_intro (.inl (h17 ho rfl (by have := k.lt; omega) (r4 _))) ?_
    rcases hok with ⟨rfl, rfl, _⟩ | ⟨rfl, hb, _⟩
    · simp (maxSteps := 2000000) (disch := first | omega | (simp only [List.length_append, List.length_cons, List.length_nil, List.length_map] <;> omega)) only [en, grd_t, ev_pick, flg_bool, flg_int, exc_int, swp_seq, swp_reg, swp_skip, swp_ret, swp_cond, seqK_n, seqK_r, condK_t, condK_f, evK_some, appK_eq, appC_eq, grd_t, srun_nil, srun_cons, stepK_grd, fin_ret, sk_mv, sk_take, sk_give, sk_pick, sk_bin, sk_ext, get_mk, raw_slot, raw_lit, put_some, wb_nil, ev_mv, ev_take, ev_give, ev_pick, ev_ext, bin_eql, bin_neq, ro_int, ro_bool, ro_tup, ro2_int, got_int, List.map_cons, List.map_nil, List.getD_cons_zero, List.getD_cons_succ, List.set_cons_zero, List.set_cons_succ, List.getElem?_cons_zero, List.getElem?_cons_succ, List.length_nil, and_true, Bool.false_eq_true, Option.map_some, ↓reduceIte, beq_self_eq_true, bne_self_eq_false, Int.reduceBNe]
      exact ⟨[], .inr ⟨by simp, by simp, rfl, rfl⟩⟩
    · have hg := k.kept rfl
      have o1 : openF V c.key c.ad h = (c.plain, 0) := by unfold openF; rw [hg]; simp
      have o2 : szF V h = z := by rw [hz rfl]; unfold szF; rw [hg]
      have e2 : (c.plain == c.plain) = true := by simp
      have e3 : (z == z) = true := by simp
      have e4 : decide (0 < z) = true := by rw [hz rfl]; simpa using sizePos2 hb
      simp (maxSteps := 2000000) (disch := first | omega | (simp only [List.length_append, List.length_cons, List.length_nil, List.length_map] <;> omega)) only [en, g0, grd_t, ev_pick, flg_int, exc_int, exc_str, exc_ptr, swp_seq, swp_reg, swp_skip, swp_cond, seqK_n, condK_f, evK_some, appK_eq, appC_eq, grd_t, srun_nil, srun_cons, stepK_call, stepK_grd, sk_mv, sk_take, sk_give, sk_pick, sk_bin, sk_fld, sk_load, sk_ext, get_mk, raw_slot, raw_lit, put_some, wb_nil, ev_mv, ev_take, ev_give, ev_pick, ev_fld, ev_ext, bin_neq, ev_ldP, ldP_some, ro_int, ro_bool, ro_str, ro_ptr, ro_tup, ro2_int, got_int, got_str, got_ptr, pubs, pubsFrom, List.map_cons, List.map_nil, List.getD_cons_zero, List.getD_cons_succ, List.set_cons_zero, List.set_cons_succ, List.getElem?_cons_zero, List.getElem?_cons_succ, Bool.false_eq_true, Option.map_some, ↓reduceIte, Nat.zero_add, bne_self_eq_false]
      refine callK_intro (.inl (h15 ho rfl o1)) ?_
      simp (maxSteps := 2000000) (disch := first | omega | (simp only [List.length_append, List.length_cons, List.length_nil, List.length_map] <;> omega)) only [g0, e2, grd_t, ev_pick, flg_int, flg_str, exc_int, exc_str, exc_ptr, swp_seq, swp_reg, seqK_n, evK_some, appK_eq, appC_eq, grd_t, srun_nil, srun_cons, stepK_call, stepK_grd, sk_mv, sk_take, sk_give, sk_pick, sk_bin, sk_fld, sk_load, sk_ext, get_mk, raw_slot, raw_lit, put_some, wb_nil, ev_mv, ev_take, ev_give, ev_pick, ev_fld, ev_ext, bin_eql, bin_eqlS, ev_ldP, ldP_some, ro_int, ro_bool, ro_str, ro_tup, ro2_int, ro2_str, got_int, got_str, got_ptr, pubs, pubsFrom, List.map_cons, List.map_nil, List.getD_cons_zero, List.getD_cons_succ, List.set_cons_zero, List.set_cons_succ, List.getElem?_cons_zero, List.getElem?_cons_succ, Bool.false_eq_true, Option.map_some, ↓reduceIte, Nat.zero_add, beq_self_eq_true]
      refine callK_intro (.inl (h19 ho rfl o2)) ?_
      simp (maxSteps := 2000000) (disch := first | omega | (simp only [List.length_append, List.length_cons, List.length_nil, List.length_map] <;> omega)) only [e3, e4, grd_t, ev_pick, flg_bool, exc_int, swp_ret, seqK_n, evK_some, appK_eq, appC_eq, grd_t, srun_nil, srun_cons, stepK_grd, fin_ret, sk_mv, sk_take, sk_give, sk_pick, sk_bin, get_mk, raw_slot, raw_lit, put_some, wb_nil, ev_mv, ev_take, ev_give, ev_pick, bin_eql, bin_gtr, ro_bool, got_int, List.map_cons, List.map_nil, List.getD_cons_zero, List.getD_cons_succ, List.set_cons_zero, List.set_cons_succ, List.length_nil, and_true, Bool.false_eq_true, ↓reduceIte, gt_iff_lt]
      exact ⟨[], .inr ⟨by simp, by simp, rfl, rfl⟩⟩
  have hd : decide ((i : Int) < (l.length : Int)) = true := by simp; omega
  have hil : i < l.length := by omega
  have hvv : v = .sl (l.flatMap fC) l.length .ro := by
    rcases hv with ⟨_, h⟩ | h
    · subst h; simp at hil
    · exact h
  subst hvv
  obtain ⟨b, hbc⟩ : ∃ b, b = l[i] := ⟨_, rfl⟩
  have e0 := fC_at hil 0 (by omega)
  have e1 := fC_at hil 1 (by omega)
  have e2 := fC_at hil 2 (by omega)
  have e3 := fC_at hil 3 (by omega)
  have e4 := fC_at hil 4 (by omega)
  rw [← hbc] at e0 e1 e2 e3 e4
  change _ = some (SV.int .i64 b.which) at e0
  change _ = some (SV.int .i64 b.key) at e1
  change _ = some (SV.int .i64 b.num) at e2
  change _ = some (SV.str b.ad) at e3
  change _ = some (SV.str b.plain) at e4
  rw [Nat.add_zero] at e0
  obtain ⟨q, hq⟩ : ∃ q, ∀ st, ev st (.bin .and) [.int .i64 b.which, .int .i64 3] = some (.int .i64 q, [], st) := ⟨_, fun _ => bin_and⟩
  have hls : V.s.length < 4294967296 := by have := k.ls; omega
  have hlt : V.t.length < 4294967296 := by have := k.lt; omega
  obtain ⟨⟨⟨a1, a2⟩, W1⟩, s1⟩ : ∃ o, sealF V b.key b.ad b.plain b.num = o := ⟨_, rfl⟩
  obtain ⟨⟨⟨b1, b2⟩, W2⟩, s2⟩ : ∃ o, nameF V b.key b.ad b.num = o := ⟨_, rfl⟩
  obtain ⟨⟨y, f⟩, s3⟩ : ∃ o, openF V b.key b.ad b.num = o := ⟨_, rfl⟩
  have k1 : Kp c h n (e == 0) (i + 1) W1 := by have := k.sealed (by omega) b.key b.ad b.plain b.num; rw [s1] at this; exact this
  have k2 : Kp c h n (e == 0) (i + 1) W2 := by have := k.named b.key b.ad b.num; rw [s2] at this; exact this
  have fin : ((l.length : Int) - ((i + 1 : Nat) : Int)).toNat < ((l.length : Int) - (i : Int)).toNat := by omega
  cases q0 : q == 0 with
  | true =>
    simp (maxSteps := 2000000) (disch := first | omega | (simp only [List.length_append, List.length_cons, List.length_nil, List.length_map] <;> omega)) only [hd, hla, hro, hq, q0, e0, e1, e2, e3, e4, Nat.add_zero, ev_fldE, Int.toNat_natCast, flg_bool, exc_int, exc_str, exc_ptr, sk_idxB, idxB_ro, swp_seq, swp_reg, swp_skip, swp_block, swp_cond, seqK_n, condK_t, evK_some, appK_eq, srun_nil, srun_cons, stepK_call, sk_mv, sk_give, sk_bin, sk_fld, sk_idxA, sk_load, sk_lenL, get_mk, raw_slot, raw_lit, put_some, wb_nil, ev_mv, ev_give, bin_eql, bin_lss, ev_loadE, idxA_ro, ro_int, ro_bool, ro_str, ro_ptr, got_int, got_str, got_ptr, pubs, pubsFrom, List.map_cons, List.map_nil, List.getD_cons_zero, List.getD_cons_succ, List.set_cons_zero, List.set_cons_succ, List.replicate_succ, List.replicate_zero, List.cons_append, List.nil_append, Bool.false_eq_true, Option.map_some, ↓reduceIte]
    refine callK_intro (.inl (h13 ho rfl hls s1)) ?_
    simp (maxSteps := 2000000) (disch := first | omega | (simp only [List.length_append, List.length_cons, List.length_nil, List.length_map] <;> omega)) only [lpK_n, flg_int, swp_reg, seqK_n, blkK_n, evK_some, appK_eq, appC_eq, srun_nil, srun_cons, sk_mv, sk_give, sk_bin, get_mk, raw_slot, raw_lit, put_some, wb_nil, ev_mv, ev_give, bin_add, ro_int, List.map_cons, List.map_nil, List.getD_cons_zero, List.getD_cons_succ, List.set_cons_zero, List.set_cons_succ, Bool.false_eq_true, ↓reduceIte, wrap_i64]
    refine ⟨_, ?_, ⟨i + 1, W1, by omega, k1, rfl⟩, fin⟩
    refine Forget.of ?_
    repeat first | exact fg_e | refine fg_d ?_ | refine fg_k rfl ?_
  | false =>
  cases q3 : q == 3 with
  | true =>
    simp (maxSteps := 2000000) (disch := first | omega | (simp only [List.length_append, List.length_cons, List.length_nil, List.length_map] <;> omega)) only [hd, hla, hro, hq, q0, q3, e0, e1, e2, e3, e4, Nat.add_zero, ev_fldE, Int.toNat_natCast, flg_bool, exc_int, exc_str, exc_ptr, sk_idxB, idxB_ro, swp_seq, swp_reg, swp_skip, swp_block, swp_cond, seqK_n, condK_t, condK_f, evK_some, appK_eq, srun_nil, srun_cons, stepK_call, sk_mv, sk_give, sk_bin, sk_fld, sk_idxA, sk_load, sk_lenL, get_mk, raw_slot, raw_lit, put_some, wb_nil, ev_mv, ev_give, bin_eql, bin_lss, ev_loadE, idxA_ro, ro_int, ro_bool, ro_str, ro_ptr, got_int, got_str, got_ptr, pubs, pubsFrom, List.map_cons, List.map_nil, List.getD_cons_zero, List.getD_cons_succ, List.set_cons_zero, List.set_cons_succ, List.replicate_succ, List.replicate_zero, List.cons_append, List.nil_append, Bool.false_eq_true, Option.map_some, ↓reduceIte]
    refine callK_intro (.inl (h13 ho rfl hls s1)) ?_
    simp (maxSteps := 2000000) (disch := first | omega | (simp only [List.length_append, List.length_cons, List.length_nil, List.length_map] <;> omega)) only [lpK_n, flg_int, swp_reg, seqK_n, blkK_n, evK_some, appK_eq, appC_eq, srun_nil, srun_cons, sk_mv, sk_give, sk_bin, get_mk, raw_slot, raw_lit, put_some, wb_nil, ev_mv, ev_give, bin_add, ro_int, List.map_cons, List.map_nil, List.getD_cons_zero, List.getD_cons_succ, List.set_cons_zero, List.set_cons_succ, Bool.false_eq_true, ↓reduceIte, wrap_i64]
    refine ⟨_, ?_, ⟨i + 1, W1, by omega, k1, rfl⟩, fin⟩
    refine Forget.of ?_
    repeat first | exact fg_e | refine fg_d ?_ | refine fg_k rfl ?_
  | false =>
  cases q1 : q == 1 with
  | true =>
    simp (maxSteps := 2000000) (disch := first | omega | (simp only [List.length_append, List.length_cons, List.length_nil, List.length_map] <;> omega)) only [hd, hla, hro, hq, q0, q3, q1, e0, e1, e2, e3, Nat.add_zero, ev_fldE, Int.toNat_natCast, flg_bool, exc_int, exc_str, exc_ptr, sk_idxB, idxB_ro, swp_seq, swp_reg, swp_skip, swp_block, swp_cond, seqK_n, condK_t, condK_f, evK_some, appK_eq, srun_nil, srun_cons, stepK_call, sk_mv, sk_give, sk_bin, sk_fld, sk_idxA, sk_load, sk_lenL, get_mk, raw_slot, raw_lit, put_some, wb_nil, ev_mv, ev_give, bin_eql, bin_lss, ev_loadE, idxA_ro, ro_int, ro_bool, ro_str, ro_ptr, got_int, got_str, got_ptr, pubs, pubsFrom, List.map_cons, List.map_nil, List.getD_cons_zero, List.getD_cons_succ, List.set_cons_zero, List.set_cons_succ, List.replicate_succ, List.replicate_zero, List.cons_append, List.nil_append, Bool.false_eq_true, Option.map_some, ↓reduceIte]
    refine callK_intro (.inl (h15 ho rfl s3)) ?_
    simp (maxSteps := 2000000) (disch := first | omega | (simp only [List.length_append, List.length_cons, List.length_nil, List.length_map] <;> omega)) only [lpK_n, flg_int, swp_reg, seqK_n, blkK_n, evK_some, appK_eq, appC_eq, srun_nil, srun_cons, sk_mv, sk_give, sk_bin, get_mk, raw_slot, raw_lit, put_some, wb_nil, ev_mv, ev_give, bin_add, ro_int, List.map_cons, List.map_nil, List.getD_cons_zero, List.getD_cons_succ, List.set_cons_zero, List.set_cons_succ, Bool.false_eq_true, ↓reduceIte, wrap_i64]
    refine ⟨_, ?_, ⟨i + 1, V, by omega, k.next, rfl⟩, fin⟩
    refine Forget.of ?_
    repeat first | exact fg_e | refine fg_d ?_ | refine fg_k rfl ?_
  | false =>
  cases q2 : q == 2 with
  | true =>
    simp (maxSteps := 2000000) (disch := first | omega | (simp only [List.length_append, List.length_cons, List.length_nil, List.length_map] <;> omega)) only [hd, hla, hro, hq, q0, q3, q1, q2, e0, e1, e2, e3, Nat.add_zero, ev_fldE, Int.toNat_natCast, flg_bool, exc_int, exc_str, exc_ptr, sk_idxB, idxB_ro, swp_seq, swp_reg, swp_skip, swp_block, swp_cond, seqK_n, condK_t, condK_f, evK_some, appK_eq, srun_nil, srun_cons, stepK_call, sk_mv, sk_give, sk_bin, sk_fld, sk_idxA, sk_load, sk_lenL, get_mk, raw_slot, raw_lit, put_some, wb_nil, ev_mv, ev_give, bin_eql, bin_lss, ev_loadE, idxA_ro, ro_int, ro_bool, ro_str, ro_ptr, got_int, got_str, got_ptr, pubs, pubsFrom, List.map_cons, List.map_nil, List.getD_cons_zero, List.getD_cons_succ, List.set_cons_zero, List.set_cons_succ, List.replicate_succ, List.replicate_zero, List.cons_append, List.nil_append, Bool.false_eq_true, Option.map_some, ↓reduceIte]
    refine callK_intro (.inl (h17 ho rfl hlt s2)) ?_
    simp (maxSteps := 2000000) (disch := first | omega | (simp only [List.length_append, List.length_cons, List.length_nil, List.length_map] <;> omega)) only [lpK_n, flg_int, swp_reg, seqK_n, blkK_n, evK_some, appK_eq, appC_eq, srun_nil, srun_cons, sk_mv, sk_give, sk_bin, get_mk, raw_slot, raw_lit, put_some, wb_nil, ev_mv, ev_give, bin_add, ro_int, List.map_cons, List.map_nil, List.getD_cons_zero, List.getD_cons_succ, List.set_cons_zero, List.set_cons_succ, Bool.false_eq_true, ↓reduceIte, wrap_i64]
    refine ⟨_, ?_, ⟨i + 1, W2, by omega, k2, rfl⟩, fin⟩
    refine Forget.of ?_
    repeat first | exact fg_e | refine fg_d ?_ | refine fg_k rfl ?_
  | false =>
    simp (maxSteps := 2000000) (disch := first | omega | (simp only [List.length_append, List.length_cons, List.length_nil, List.length_map] <;> omega)) only [hd, hla, hro, hq, q0, q3, q1, q2, e0, Nat.add_zero, ev_fldE, lpK_n, Int.toNat_natCast, flg_bool, flg_int, sk_idxB, idxB_ro, swp_seq, swp_reg, swp_skip, swp_block, swp_cond, seqK_n, blkK_n, condK_t, condK_f, evK_some, appK_eq, srun_nil, srun_cons, sk_mv, sk_give, sk_bin, sk_fld, sk_load, sk_lenL, get_mk, raw_slot, raw_lit, put_some, wb_nil, ev_mv, ev_give, bin_add, bin_eql, bin_lss, ev_loadE, ro_int, ro_bool, List.map_cons, List.map_nil, List.getD_cons_zero, List.getD_cons_succ, List.set_cons_zero, List.set_cons_succ, List.replicate_succ, List.replicate_zero, List.cons_append, List.nil_append, Bool.false_eq_true, Option.map_some, ↓reduceIte, wrap_i64]
    refine ⟨_, ?_, ⟨i + 1, V, by omega, k.next, rfl⟩, fin⟩
    refine Forget.of ?_
    repeat first | exact fg_e | refine fg_d ?_ | refine fg_k rfl ?_
end Go.Sh.F
