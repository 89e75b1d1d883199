/-
  VaultPlays, in the shadow machine.
-/
import Derived.Test.YtmbaokfcdfhfeaaV17
set_option linter.unusedSimpArgs false
set_option linter.unusedVariables false
namespace Go.Sh.F
/-- A vault, the document's one, and what is behind them. -/
def DY (V U : VS) (X : List Ob) : List Ob := At [] 0 V (Yob U :: X)
theorem idOks_fO (k : Nat) (l : List (Int × Sd)) : idOks k (l.flatMap fO) = true := by
  induction l with
  | nil => rfl
  | cons x l ih => rw [List.flatMap_cons, idOks_app, ih]; rfl
theorem idOks_fN (k : Nat) (l : List ((Int × List UInt8) × Int)) : idOks k (l.flatMap fN) = true := by
  induction l with
  | nil => rfl
  | cons x l ih => rw [List.flatMap_cons, idOks_app, ih]; rfl
theorem ob_Yob (k : Nat) (U : VS) : obOk k (Yob U) = true := by
  have h1 : idOk k (ownV fO 4 U.s) = true := by
    cases hs : U.s with
    | nil => rfl
    | cons p l => exact idOks_fO k (p :: l)
  have h2 : idOk k (ownV fN 3 U.n) = true := by
    cases hs : U.n with
    | nil => rfl
    | cons p l => exact idOks_fN k (p :: l)
  show (idOk k (ownV fO 4 U.s) && (idOk k (ownV fN 3 U.n) && true)) = true
  rw [h1, h2]; rfl
theorem idOks_fC' (k : Nat) (l : List Cl) : idOks k (l.flatMap fC) = true := by
  induction l with
  | nil => rfl
  | cons x l ih => rw [List.flatMap_cons, idOks_app, ih]; rfl
theorem DY_ok (V U : VS) {X : List Ob} (h : X.all (obOk (5 + X.length)) = true) : okSt (DY V U X) := by
  show (vobs 0 V ++ (Yob U :: X)).all (obOk (vobs 0 V ++ (Yob U :: X)).length) = true
  have e : (vobs 0 V ++ (Yob U :: X)).length = 5 + X.length := by simp [vobs]; omega
  rw [e, List.all_append, List.all_cons, vobs_ok (by omega), ob_Yob, h]; rfl
theorem l49 {f : FuncId} {a : List SV} {s s' : List Ob} {r : SV} (h : O49 f a s r s') : O55 f a s r s' := .inl (.inl (.inl (.inl (.inl (.inl h)))))
section
variable {V V' U U' : VS} {X : List Ob} {key x a e n nonce : Int} {ad plain y label : List UInt8}
theorem p13 (ho : okSt (DY V U X)) (hl : V.s.length < 4294967296) (hr : sealF V key ad plain nonce = ((a, e), V')) : O55 13 [.ptr 3 0, .int .i64 key, .str ad, .str plain, .int .i64 nonce] (DY V U X) (.tup [.int .i64 a, .int .i64 e]) (DY V' U X) := l49 (.inl (.inl (g13 (pre := []) (m := 0) rfl ho hl hr)))
theorem p15 (ho : okSt (DY V U X)) (hr : openF V key ad x = (y, e)) : O55 15 [.ptr 3 0, .int .i64 key, .str ad, .int .i64 x] (DY V U X) (.tup [.str y, .int .i64 e]) (DY V U X) := l49 (.inl (.inl (g15 (pre := []) (m := 0) rfl ho hr)))
theorem p17 (ho : okSt (DY V U X)) (hl : V.t.length < 4294967296) (hr : nameF V key label nonce = ((a, e), V')) : O55 17 [.ptr 3 0, .int .i64 key, .str label, .int .i64 nonce] (DY V U X) (.tup [.int .i64 a, .int .i64 e]) (DY V' U X) := l49 (.inl (.inl (g17 (pre := []) (m := 0) rfl ho hl hr)))
theorem p19 (ho : okSt (DY V U X)) (hr : szF V x = n) : O55 19 [.ptr 3 0, .int .i64 x] (DY V U X) (.int .i64 n) (DY V U X) := l49 (.inl (.inl (g19 (pre := []) (m := 0) rfl ho hr)))
theorem p21 : O55 21 [.ptr 3 0] (DY V U X) (.int .i64 V.s.length) (DY V U X) := l49 (.inl (.inl (g21 (pre := []) (m := 0) rfl)))
theorem p22 : O55 22 [.ptr 3 0] (DY V U X) (.int .i64 V.n.length) (DY V U X) := l49 (.inl (.inl (g22 (pre := []) (m := 0) rfl)))
theorem p14 (hl : U.s.length ≤ 10000) (hr : sealF U key ad plain nonce = ((a, e), U')) : O55 14 [.ptr 4 0, .int .i64 key, .str ad, .str plain, .int .i64 nonce] (DY V U X) (.tup [.int .i64 a, .int .i64 e]) (DY V U' X) := .inl (.inl (.inr ⟨rfl, 4, U, key, ad, plain, nonce, rfl, hl, rfl, by rw [hr], by rw [hr]; rfl⟩))
theorem p18 (hl : U.n.length ≤ 10000) (ht : U.t = U.n.map fun p => (p.2, true)) (hr : nameF U key label nonce = ((a, e), U')) : O55 18 [.ptr 4 0, .int .i64 key, .str label, .int .i64 nonce] (DY V U X) (.tup [.int .i64 a, .int .i64 e]) (DY V U' X) := .inl (.inr ⟨rfl, 4, U, key, label, nonce, rfl, hl, ht, rfl, by rw [hr], by rw [hr]; rfl⟩)
theorem p16 (ho : okSt (DY V U X)) (hl : U.s.length ≤ 10000) (hn : (U.s.map (·.1)).Nodup) (hr : openF U key ad x = (y, e)) : O55 16 [.ptr 4 0, .int .i64 key, .str ad, .int .i64 x] (DY V U X) (.tup [.str y, .int .i64 e]) (DY V U X) := .inr ⟨rfl, 4, U, key, ad, x, rfl, ho, hl, rfl, by rw [← openL_eq hn, hr], rfl⟩
theorem p20 (hl : U.s.length ≤ 16384) (hr : szF U x = n) : O55 20 [.ptr 4 0, .int .i64 x] (DY V U X) (.int .i64 n) (DY V U X) := .inl (.inl (.inl (.inl (.inl (.inr ⟨rfl, 4, U, x, rfl, hl, rfl, by rw [hr], rfl⟩)))))
end
/-- What is known of the vault behind i calls. -/
structure Pl (i : Nat) (V : VS) : Prop where
  ls : V.s.length ≤ i
  ln : V.n.length ≤ i
  t : V.t = V.n.map fun p => (p.2, true)
  nd : (V.s.map (·.1)).Nodup
theorem Pl.next {i : Nat} {V : VS} (h : Pl i V) : Pl (i + 1) V := ⟨by have := h.ls; omega, by have := h.ln; omega, h.t, h.nd⟩
theorem mget_none' {α : Type} {k : Int} : ∀ {l : List (Int × α)}, mget k l = none → k ∉ l.map (·.1)
  | [], _ => by simp
  | p :: l, h => by
    simp only [mget] at h
    split at h
    · cases h
    · rename_i hk
      rw [List.map_cons, List.mem_cons, not_or]
      exact ⟨fun e => hk (by simp [e]), mget_none' h⟩
theorem Pl.sealed {i : Nat} {V : VS} (h : Pl i V) (hi : i ≤ 1000) (key : Int) (ad plain : List UInt8) (nonce : Int) : Pl (i + 1) (sealF V key ad plain nonce).2 := by
  have hl := h.ls
  rcases bkt_len plain with hb | hb
  · rw [seal_no hb]; exact h.next
  · have hnew := seal_new V (by omega) nonce
    rw [seal_yes (by omega) (by omega), mput_fresh hnew]
    refine ⟨by simp; omega, by have := h.ln; show V.n.length ≤ i + 1; omega, h.t, ?_⟩
    show ((V.s ++ [_]).map (fun p : Int × Sd => p.1)).Nodup
    rw [List.map_append, List.nodup_append]
    refine ⟨h.nd, by simp, ?_⟩
    intro x hx z hz e
    simp at hz
    subst hz
    exact mget_none' hnew (e ▸ hx)
theorem Pl.named {i : Nat} {V : VS} (h : Pl i V) (hi : i ≤ 1000) (key : Int) (label : List UInt8) (nonce : Int) : Pl (i + 1) (nameF V key label nonce).2 := by
  have hl := h.ln
  cases hm : mget (key, label) V.n with
  | some n => rw [name_found hm]; exact h.next
  | none =>
    have hfree := isT_free V (by rw [h.t, List.length_map]; omega) nonce
    have hnone : mget (drawF (isT V) V.t.length (maskF nonce)) V.t = none := by
      cases hx : mget (drawF (isT V) V.t.length (maskF nonce)) V.t with
      | none => rfl
      | some b =>
        have h2 := mget_of hx
        rw [h.t, List.mem_map] at h2
        obtain ⟨p, _, hp⟩ := h2
        have hb : b = true := (Prod.mk.inj hp).2.symm
        unfold isT at hfree
        rw [show mget (drawF (fun x => (mget x V.t).getD false) V.t.length (maskF nonce)) V.t = some b from hx, hb] at hfree
        cases hfree
    rw [name_fresh hm (by omega), mput_fresh hm, mput_fresh hnone]
    refine ⟨by have := h.ls; show V.s.length ≤ i + 1; omega, by simp; omega, ?_, h.nd⟩
    show V.t ++ [_] = (V.n ++ [_]).map _
    rw [List.map_append, ← h.t]; rfl
set_option maxHeartbeats 16000000 in
set_option maxRecDepth 50000 in
theorem fPlays (v : SV) (l : List Cl) (hv : rdR fC v l) (hl : l.length ≤ 1048576) (hs : ∀ c ∈ l, c.ad.length ≤ 1048576 ∧ c.plain.length ≤ 1048576) :
    swpF O55 sf3 [v] [] (fun r _ => r = .bool true) := by
  have ho : okSt [] := okSt_nil
  obtain ⟨hro, hgot, hexc, hflg, hla⟩ := rdR_facts hv
  have b1 : ev (Sp [] V0) .box [.agg [.nilS, .nilS]] = some (.ptr 4 0, [], DY V0 V0 []) := rfl
  have b2 : ∀ st, ev st (.bld [.nilS, .nilS] []) [] = some (.agg [.nilS, .nilS], [], st) := fun _ => rfl
  simp (maxSteps := 2000000) (disch := first | omega | (simp only [List.length_append, List.length_cons, List.length_nil, List.length_map] <;> omega)) only [sf3, flg_bool, swp_seq, swp_reg, seqK_n, evK_some, appK_eq, srun_nil, srun_cons, stepK_call, swpF_eq, sk_give, raw_lit, put_some, wb_nil, ev_give, ro_bool, pubs, pubsFrom, List.map_cons, List.map_nil, List.set_cons_zero, List.set_cons_succ, List.length_cons, List.length_nil, List.replicate_succ, List.replicate_zero, List.cons_append, List.nil_append, Nat.reduceSub, Bool.false_eq_true, ↓reduceIte, Nat.zero_add]
  refine callK_intro (l49 (h10 ho)) ?_
  simp (maxSteps := 2000000) (disch := first | omega | (simp only [List.length_append, List.length_cons, List.length_nil, List.length_map] <;> omega)) only [hro, hgot, hexc, flg_bool, swp_seq, swp_reg, seqK_n, evK_some, appK_eq, appC_eq, srun_nil, srun_cons, stepK_call, sk_mv, sk_give, get_mk, raw_slot, put_some, wb_nil, ev_mv, ev_give, ro_bool, pubs, pubsFrom, List.map_cons, List.map_nil, List.getD_cons_zero, List.getD_cons_succ, List.set_cons_zero, List.set_cons_succ, Bool.false_eq_true, ↓reduceIte]
  refine callK_intro (l49 (.inl (few_ok hv (by omega) (fun c hc => by have := hs c hc; omega) _))) ?_
  simp (maxSteps := 2000000) (disch := first | omega | (simp only [List.length_append, List.length_cons, List.length_nil, List.length_map] <;> omega)) only [flg_bool, swp_seq, swp_reg, seqK_n, evK_some, appK_eq, appC_eq, srun_nil, srun_cons, stepK_call, sk_give, get_mk, raw_slot, put_some, wb_nil, ev_give, ro_bool, pubs, pubsFrom, List.map_cons, List.map_nil, List.getD_cons_zero, List.getD_cons_succ, List.set_cons_zero, List.set_cons_succ, Bool.false_eq_true, ↓reduceIte]
  refine callK_intro (l49 (.inl (h12 _))) ?_
  cases hf : fewF l with
  | false =>
    simp (maxSteps := 2000000) (disch := first | omega | (simp only [List.length_append, List.length_cons, List.length_nil, List.length_map] <;> omega)) only [b1, b2, grd_t, ev_pick, flg_bool, flg_ptr, exc_bool, exc_ptr, swp_seq, swp_reg, swp_ret, swp_cond, seqK_n, seqK_r, condK_t, evK_some, appK_eq, appC_eq, grd_t, srun_nil, srun_cons, stepK_grd, fin_ret, sk_mv, sk_take, sk_give, sk_pick, sk_eqN, sk_un, sk_bld, sk_box, get_mk, raw_slot, raw_lit, put_some, wb_nil, ev_mv, ev_take, ev_give, ev_pick, ev_not, ev_eqNp2, ro_bool, ro_ptr, got_bool, got_ptr, List.map_cons, List.map_nil, List.getD_cons_zero, List.getD_cons_succ, List.set_cons_zero, List.set_cons_succ, List.length_nil, and_true, Bool.false_eq_true, ↓reduceIte, Nat.zero_add, Bool.not_false]
    exact ⟨[], .inr ⟨by simp, by simp, rfl, rfl⟩⟩
  | true =>
  have hf2 : l.length ≤ 100 := by
    unfold fewF at hf
    simp only [Bool.and_eq_true, decide_eq_true_eq] at hf
    exact hf.2
  have h5 := fC_len l
  simp (maxSteps := 2000000) (disch := first | omega | (simp only [List.length_append, List.length_cons, List.length_nil, List.length_map] <;> omega)) only [b1, b2, grd_t, ev_pick, flg_ptr, exc_bool, exc_int, swp_seq, swp_reg, swp_skip, swp_block, swp_cond, seqK_n, condK_f, evK_some, appK_eq, appC_eq, grd_t, srun_nil, srun_cons, stepK_grd, sk_mv, sk_take, sk_give, sk_pick, sk_eqN, sk_un, sk_bld, sk_box, get_mk, raw_slot, raw_lit, put_some, wb_nil, ev_mv, ev_take, ev_give, ev_pick, ev_not, ev_eqNp2, ro_bool, ro_ptr, got_int, got_bool, List.map_cons, List.map_nil, List.getD_cons_zero, List.getD_cons_succ, List.set_cons_zero, List.set_cons_succ, List.length_nil, Bool.false_eq_true, ↓reduceIte, Nat.zero_add, Bool.not_true]
  refine swp_lp (fun S => ∃ (i : Nat) (V : VS), i ≤ l.length ∧ Pl i V ∧
      S = ⟨[v, .undef, .bool false, .bool true, .bool true, .ptr 3 0, .ptr 4 0, .int .i64 i] ++ List.replicate 179 .undef, DY V V []⟩)
      (fun S => match S.get 7 with | .int _ k => ((l.length : Int) - k).toNat | _ => 0)
      ⟨[v, .undef, .bool false, .bool true, .bool true, .ptr 3 0, .ptr 4 0, .int .i64 0] ++ List.replicate 179 .undef, DY V0 V0 []⟩ ?_ ⟨0, V0, by omega, ⟨by decide, by decide, rfl, by simp [V0]⟩, rfl⟩ ?_
  · refine Forget.of ?_
    repeat first | exact fg_e | refine fg_d ?_ | refine fg_k rfl ?_
  rintro S ⟨i, V, hi, hP, rfl⟩
  by_cases him : i = l.length
  · subst him
    have hd : decide ((l.length : Int) < (l.length : Int)) = false := by simp
    simp (maxSteps := 2000000) (disch := first | omega | (simp only [List.length_append, List.length_cons, List.length_nil, List.length_map] <;> omega)) only [hd, hla, lpK_e, flg_bool, swp_seq, swp_reg, swp_ret, swp_exit, swp_cond, seqK_n, seqK_e, blkK_e, condK_f, evK_some, appK_eq, srun_nil, srun_cons, fin_ret, sk_mv, sk_give, sk_bin, sk_lenL, get_mk, raw_slot, put_some, wb_nil, ev_mv, ev_give, bin_lss, ro_int, ro_bool, List.map_cons, List.map_nil, List.getD_cons_zero, List.getD_cons_succ, List.set_cons_zero, List.set_cons_succ, List.length_nil, List.replicate_succ, List.replicate_zero, List.cons_append, List.nil_append, and_true, Bool.false_eq_true, ↓reduceIte]
    exact ⟨[], .inr ⟨by simp, by simp, rfl, rfl⟩⟩
  have hd : decide ((i : Int) < (l.length : Int)) = true := by simp; omega
  have hil : i < l.length := by omega
  have hvv : v = .sl (l.flatMap fC) l.length .ro := by
    rcases hv with ⟨_, h⟩ | h
    · subst h; simp at hil
    · exact h
  subst hvv
  obtain ⟨b, hbc⟩ : ∃ b, b = l[i] := ⟨_, rfl⟩
  obtain ⟨m1, m2⟩ := hs b (by rw [hbc]; exact List.getElem_mem hil)
  have e5 : ∀ st, ev st (.load 5 true) [.elv (l.flatMap fC) (i * 5)] = some (.agg [.int .i64 b.which, .int .i64 b.key, .int .i64 b.num, .str b.ad, .str b.plain], [], st) := fun st => by
    rw [ev_ldE (by omega), flatMap_drop (f := fC) (n := 5) (fun _ => rfl) l i b (by rw [hbc]; exact List.getElem?_eq_getElem hil)]; rfl
  obtain ⟨X, hX⟩ : ∃ X : List Ob, X = [.cells [.int .i64 b.which, .int .i64 b.key, .int .i64 b.num, .str b.ad, .str b.plain]] := ⟨_, rfl⟩
  have hal : ∀ V U, ev (DY V U []) (.alloc [.int .i64 0, .int .i64 0, .int .i64 0, .str [], .str []]) [] = some (.ptr 5 0, [], DY V U [.cells [.int .i64 0, .int .i64 0, .int .i64 0, .str [], .str []]]) := fun _ _ => rfl
  have hst : ∀ V U, ev (DY V U [.cells [.int .i64 0, .int .i64 0, .int .i64 0, .str [], .str []]]) (.store 5 true) [.ptr 5 0, .agg [.int .i64 b.which, .int .i64 b.key, .int .i64 b.num, .str b.ad, .str b.plain]] = some (.undef, [], DY V U X) := fun V U => by
    rw [st_agg (n := 5) (l := [.int .i64 0, .int .i64 0, .int .i64 0, .str [], .str []]) rfl (show [SV.int .i64 b.which, .int .i64 b.key, .int .i64 b.num, .str b.ad, .str b.plain].all plainV = true from rfl) rfl rfl, hX]; rfl
  have g5 : ∀ V U, (DY V U X)[5]? = some (.cells [.int .i64 b.which, .int .i64 b.key, .int .i64 b.num, .str b.ad, .str b.plain]) := fun V U => by rw [hX]; rfl
  have hXo : X.all (obOk (5 + X.length)) = true := by rw [hX]; rfl
  have hok : ∀ V U, okSt (DY V U X) := fun V U => DY_ok V U hXo
  have hDX : ∀ V, DY V V [] = (DY V V X).take (DY V V []).length := fun V => by rw [hX]; rfl
  obtain ⟨q, hq⟩ : ∃ q, ∀ st, ev st (.bin .and) [.int .i64 b.which, .int .i64 3] = some (.int .i64 q, [], st) := ⟨_, fun _ => bin_and⟩
  have hls : V.s.length < 4294967296 := by have := hP.ls; omega
  have hlt : V.t.length < 4294967296 := by rw [hP.t, List.length_map]; have := hP.ln; omega
  have hls2 : V.s.length ≤ 10000 := by have := hP.ls; omega
  have hln2 : V.n.length ≤ 10000 := by have := hP.ln; omega
  have fin : ((l.length : Int) - ((i + 1 : Nat) : Int)).toNat < ((l.length : Int) - (i : Int)).toNat := by omega
  have hid : idOks 5 ([.sl (l.flatMap fC) l.length .ro, .undef, .bool false, .bool true, .bool true, .ptr 3 0, .ptr 4 0, .int .i64 ((i + 1 : Nat) : Int)] ++ List.replicate 179 .undef) = true := by
    simp [idOks, idOk, idOks_fC']
  -- what is told of the vaults behind a call
  have tail : ∀ (W : VS) (n : Int), szF W b.num = n → W.s.length ≤ 10000 → W.n.length ≤ 10000 →
      (O55 19 [.ptr 3 0, .int .i64 b.num] (DY W W X) (.int .i64 n) (DY W W X) ∧ O55 20 [.ptr 4 0, .int .i64 b.num] (DY W W X) (.int .i64 n) (DY W W X) ∧ O55 21 [.ptr 3 0] (DY W W X) (.int .i64 W.s.length) (DY W W X) ∧ O55 22 [.ptr 3 0] (DY W W X) (.int .i64 W.n.length) (DY W W X)) :=
    fun W n hn h1 h2 => ⟨p19 (hok _ _) hn, p20 (by omega) hn, p21, p22⟩
  have hy4 : ∀ W : VS, (DY W W X)[4]? = some (.cells [ownV fO 4 W.s, ownV fN 3 W.n]) := fun _ => rfl
  have hlo : ∀ (W : VS) st, ev st .lenL [roV fO W.s] = some (.int .i64 W.s.length, [], st) := fun W st => (rdR_facts (roV_rd (f := fO) (l := W.s))).2.2.2.2 st
  have hln : ∀ (W : VS) st, ev st .lenL [roV fN W.n] = some (.int .i64 W.n.length, [], st) := fun W st => (rdR_facts (roV_rd (f := fN) (l := W.n))).2.2.2.2 st
  obtain ⟨⟨⟨a1, a2⟩, W1⟩, s1⟩ : ∃ o, sealF V b.key b.ad b.plain b.num = o := ⟨_, rfl⟩
  obtain ⟨⟨⟨b1, b2⟩, W2⟩, s2⟩ : ∃ o, nameF V b.key b.ad b.num = o := ⟨_, rfl⟩
  obtain ⟨⟨y, f⟩, s3⟩ : ∃ o, openF V b.key b.ad b.num = o := ⟨_, rfl⟩
  have k1 : Pl (i + 1) W1 := by have := hP.sealed (by omega) b.key b.ad b.plain b.num; rw [s1] at this; exact this
  have k2 : Pl (i + 1) W2 := by have := hP.named (by omega) b.key b.ad b.num; rw [s2] at this; exact this
  have x1 : (a1 == a1) = true := by simp
  have x2 : (a2 == a2) = true := by simp
  have x3 : (y == y) = true := by simp
  have x4 : (f == f) = true := by simp
  have x5 : (b1 == b1) = true := by simp
  have x6 : (b2 == b2) = true := by simp
  cases q0 : q == 0 with
  | true =>
    simp (maxSteps := 2000000) (disch := first | omega | (simp only [List.length_append, List.length_cons, List.length_nil, List.length_map] <;> omega)) only [hd, hla, hro, e5, hal, hst, g5, hq, q0, Int.toNat_natCast, flg_bool, exc_bool, exc_int, exc_str, exc_ptr, sk_idxB, idxB_ro, swp_seq, swp_reg, swp_skip, swp_block, swp_cond, seqK_n, condK_t, evK_some, appK_eq, srun_nil, srun_cons, stepK_call, sk_mv, sk_take, sk_give, sk_bin, sk_fld, sk_load, sk_store, sk_lenL, sk_alloc, get_mk, raw_slot, raw_lit, put_some, put_none, wb_nil, ev_mv, ev_take, ev_give, ev_fld, bin_eql, bin_lss, ev_ldP, ldP_some, ro_int, ro_bool, ro_str, ro_ptr, got_int, got_bool, got_str, got_ptr, pubs, pubsFrom, List.map_cons, List.map_nil, List.getD_cons_zero, List.getD_cons_succ, List.set_cons_zero, List.set_cons_succ, List.getElem?_cons_zero, List.getElem?_cons_succ, List.replicate_succ, List.replicate_zero, List.cons_append, List.nil_append, Bool.false_eq_true, Option.map_some, ↓reduceIte, Nat.zero_add]
    refine callK_intro (p13 (hok _ _) hls s1) ?_
    simp (maxSteps := 2000000) (disch := first | omega | (simp only [List.length_append, List.length_cons, List.length_nil, List.length_map] <;> omega)) only [g5, flg_int, exc_int, exc_str, exc_ptr, swp_seq, swp_reg, seqK_n, evK_some, appK_eq, appC_eq, srun_nil, srun_cons, stepK_call, sk_mv, sk_give, sk_fld, sk_load, sk_ext, get_mk, raw_slot, put_some, wb_nil, ev_mv, ev_give, ev_fld, ev_ext, ev_ldP, ldP_some, ro_int, ro_str, ro_ptr, ro_tup, ro2_int, got_int, got_str, got_ptr, pubs, pubsFrom, List.map_cons, List.map_nil, List.getD_cons_zero, List.getD_cons_succ, List.set_cons_zero, List.set_cons_succ, List.getElem?_cons_zero, List.getElem?_cons_succ, Bool.false_eq_true, Option.map_some, ↓reduceIte, Nat.zero_add]
    refine callK_intro (p14 hls2 s1) ?_
    simp (maxSteps := 2000000) (disch := first | omega | (simp only [List.length_append, List.length_cons, List.length_nil, List.length_map] <;> omega)) only [g5, x1, x2, grd_t, ev_pick, flg_bool, flg_int, exc_int, swp_seq, swp_reg, seqK_n, blkK_n, evK_some, appK_eq, appC_eq, grd_t, srun_nil, srun_cons, stepK_grd, sk_mv, sk_take, sk_give, sk_pick, sk_bin, sk_un, sk_fld, sk_load, sk_ext, get_mk, raw_slot, raw_lit, put_some, wb_nil, ev_mv, ev_take, ev_give, ev_pick, ev_not, ev_fld, ev_ext, bin_eql, ev_ldP, ldP_some, ro_int, ro_bool, ro_ptr, ro_tup, ro2_int, got_int, List.map_cons, List.map_nil, List.getD_cons_zero, List.getD_cons_succ, List.set_cons_zero, List.set_cons_succ, List.getElem?_cons_zero, List.getElem?_cons_succ, Bool.false_eq_true, Option.map_some, ↓reduceIte, Nat.zero_add, Bool.not_true]
    obtain ⟨n, hn⟩ : ∃ n, szF W1 b.num = n := ⟨_, rfl⟩
    have hPW : Pl (i + 1) W1 := k1
    obtain ⟨t19, t20, t21, t22⟩ := tail W1 n hn (by have := hPW.ls; omega) (by have := hPW.ln; omega)
    have z1 : (n != n) = false := by simp
    have z2 : ((W1.s.length : Int) != (W1.s.length : Int)) = false := by simp
    have z3 : ((W1.n.length : Int) != (W1.n.length : Int)) = false := by simp
    apply swp_to
    · repeat' first | exact swp_ttI | refine swp_bothI ?_ ?_ | refine callK_intro t19 ?_ | refine callK_intro t20 ?_ | refine callK_intro t21 ?_ | refine callK_intro t22 ?_ | exact ⟨rfl, rfl⟩ | exact rfl | simp (maxSteps := 2000000) (disch := first | omega | (simp only [List.length_append, List.length_cons, List.length_nil, List.length_map] <;> omega)) only [g5, hy4, hlo, hln, ro_ownV, z1, z2, z3, grd_t, ev_pick, exc_int, exc_ptr, swp_seq, swp_reg, seqK_n, evK_some, appK_eq, appC_eq, grd_t, srun_nil, srun_cons, stepK_call, stepK_grd, sk_mv, sk_pick, sk_bin, sk_nilc, sk_fld, sk_load, sk_lenL, get_mk, raw_slot, raw_lit, put_some, wb_nil, ev_mv, ev_pick, ev_nilc, ev_fld, bin_neq, ev_ldP, ldP_some, ro_int, ro_bool, ro_ptr, got_int, got_ptr, pubs, pubsFrom, List.map_cons, List.map_nil, List.getD_cons_zero, List.getD_cons_succ, List.set_cons_zero, List.set_cons_succ, List.getElem?_cons_zero, List.getElem?_cons_succ, true_and, Bool.false_eq_true, Option.map_some, ↓reduceIte, Nat.zero_add]
    simp (maxSteps := 2000000) (disch := first | omega | (simp only [List.length_append, List.length_cons, List.length_nil, List.length_map] <;> omega)) only [lpK_n, flg_int, swp_reg, swp_skip, swp_cond, seqK_n, blkK_n, condK_f, evK_some, appK_eq, srun_nil, srun_cons, sk_mv, sk_give, sk_bin, get_mk, raw_slot, raw_lit, put_some, wb_nil, ev_mv, ev_give, bin_add, ro_int, List.map_cons, List.map_nil, List.getD_cons_zero, List.getD_cons_succ, List.set_cons_zero, List.set_cons_succ, Bool.false_eq_true, ↓reduceIte, wrap_i64]
    refine ⟨_, Forget.cut ?_ (show (DY V0 V0 []).length ≤ (DY W1 W1 []).length from Nat.le_refl 5) (hDX W1) hid (DY_ok W1 W1 rfl), ⟨i + 1, W1, by omega, hPW, rfl⟩, fin⟩
    repeat first | exact fg_e | refine fg_d ?_ | refine fg_k rfl ?_
  | false =>
  cases q3 : q == 3 with
  | true =>
    simp (maxSteps := 2000000) (disch := first | omega | (simp only [List.length_append, List.length_cons, List.length_nil, List.length_map] <;> omega)) only [hd, hla, hro, e5, hal, hst, g5, hq, q0, q3, Int.toNat_natCast, flg_bool, exc_bool, exc_int, exc_str, exc_ptr, sk_idxB, idxB_ro, swp_seq, swp_reg, swp_skip, swp_block, swp_cond, seqK_n, condK_t, condK_f, evK_some, appK_eq, srun_nil, srun_cons, stepK_call, sk_mv, sk_take, sk_give, sk_bin, sk_fld, sk_load, sk_store, sk_lenL, sk_alloc, get_mk, raw_slot, raw_lit, put_some, put_none, wb_nil, ev_mv, ev_take, ev_give, ev_fld, bin_eql, bin_lss, ev_ldP, ldP_some, ro_int, ro_bool, ro_str, ro_ptr, got_int, got_bool, got_str, got_ptr, pubs, pubsFrom, List.map_cons, List.map_nil, List.getD_cons_zero, List.getD_cons_succ, List.set_cons_zero, List.set_cons_succ, List.getElem?_cons_zero, List.getElem?_cons_succ, List.replicate_succ, List.replicate_zero, List.cons_append, List.nil_append, Bool.false_eq_true, Option.map_some, ↓reduceIte, Nat.zero_add]
    refine callK_intro (p13 (hok _ _) hls s1) ?_
    simp (maxSteps := 2000000) (disch := first | omega | (simp only [List.length_append, List.length_cons, List.length_nil, List.length_map] <;> omega)) only [g5, flg_int, exc_int, exc_str, exc_ptr, swp_seq, swp_reg, seqK_n, evK_some, appK_eq, appC_eq, srun_nil, srun_cons, stepK_call, sk_mv, sk_give, sk_fld, sk_load, sk_ext, get_mk, raw_slot, put_some, wb_nil, ev_mv, ev_give, ev_fld, ev_ext, ev_ldP, ldP_some, ro_int, ro_str, ro_ptr, ro_tup, ro2_int, got_int, got_str, got_ptr, pubs, pubsFrom, List.map_cons, List.map_nil, List.getD_cons_zero, List.getD_cons_succ, List.set_cons_zero, List.set_cons_succ, List.getElem?_cons_zero, List.getElem?_cons_succ, Bool.false_eq_true, Option.map_some, ↓reduceIte, Nat.zero_add]
    refine callK_intro (p14 hls2 s1) ?_
    simp (maxSteps := 2000000) (disch := first | omega | (simp only [List.length_append, List.length_cons, List.length_nil, List.length_map] <;> omega)) only [g5, x1, x2, grd_t, ev_pick, flg_bool, flg_int, exc_int, swp_seq, swp_reg, seqK_n, blkK_n, evK_some, appK_eq, appC_eq, grd_t, srun_nil, srun_cons, stepK_grd, sk_mv, sk_take, sk_give, sk_pick, sk_bin, sk_un, sk_fld, sk_load, sk_ext, get_mk, raw_slot, raw_lit, put_some, wb_nil, ev_mv, ev_take, ev_give, ev_pick, ev_not, ev_fld, ev_ext, bin_eql, ev_ldP, ldP_some, ro_int, ro_bool, ro_ptr, ro_tup, ro2_int, got_int, List.map_cons, List.map_nil, List.getD_cons_zero, List.getD_cons_succ, List.set_cons_zero, List.set_cons_succ, List.getElem?_cons_zero, List.getElem?_cons_succ, Bool.false_eq_true, Option.map_some, ↓reduceIte, Nat.zero_add, Bool.not_true]
    obtain ⟨n, hn⟩ : ∃ n, szF W1 b.num = n := ⟨_, rfl⟩
    have hPW : Pl (i + 1) W1 := k1
    obtain ⟨t19, t20, t21, t22⟩ := tail W1 n hn (by have := hPW.ls; omega) (by have := hPW.ln; omega)
    have z1 : (n != n) = false := by simp
    have z2 : ((W1.s.length : Int) != (W1.s.length : Int)) = false := by simp
    have z3 : ((W1.n.length : Int) != (W1.n.length : Int)) = false := by simp
    apply swp_to
    · repeat' first | exact swp_ttI | refine swp_bothI ?_ ?_ | refine callK_intro t19 ?_ | refine callK_intro t20 ?_ | refine callK_intro t21 ?_ | refine callK_intro t22 ?_ | exact ⟨rfl, rfl⟩ | exact rfl | simp (maxSteps := 2000000) (disch := first | omega | (simp only [List.length_append, List.length_cons, List.length_nil, List.length_map] <;> omega)) only [g5, hy4, hlo, hln, ro_ownV, z1, z2, z3, grd_t, ev_pick, exc_int, exc_ptr, swp_seq, swp_reg, seqK_n, evK_some, appK_eq, appC_eq, grd_t, srun_nil, srun_cons, stepK_call, stepK_grd, sk_mv, sk_pick, sk_bin, sk_nilc, sk_fld, sk_load, sk_lenL, get_mk, raw_slot, raw_lit, put_some, wb_nil, ev_mv, ev_pick, ev_nilc, ev_fld, bin_neq, ev_ldP, ldP_some, ro_int, ro_bool, ro_ptr, got_int, got_ptr, pubs, pubsFrom, List.map_cons, List.map_nil, List.getD_cons_zero, List.getD_cons_succ, List.set_cons_zero, List.set_cons_succ, List.getElem?_cons_zero, List.getElem?_cons_succ, true_and, Bool.false_eq_true, Option.map_some, ↓reduceIte, Nat.zero_add]
    simp (maxSteps := 2000000) (disch := first | omega | (simp only [List.length_append, List.length_cons, List.length_nil, List.length_map] <;> omega)) only [lpK_n, flg_int, swp_reg, swp_skip, swp_cond, seqK_n, blkK_n, condK_f, evK_some, appK_eq, srun_nil, srun_cons, sk_mv, sk_give, sk_bin, get_mk, raw_slot, raw_lit, put_some, wb_nil, ev_mv, ev_give, bin_add, ro_int, List.map_cons, List.map_nil, List.getD_cons_zero, List.getD_cons_succ, List.set_cons_zero, List.set_cons_succ, Bool.false_eq_true, ↓reduceIte, wrap_i64]
    refine ⟨_, Forget.cut ?_ (show (DY V0 V0 []).length ≤ (DY W1 W1 []).length from Nat.le_refl 5) (hDX W1) hid (DY_ok W1 W1 rfl), ⟨i + 1, W1, by omega, hPW, rfl⟩, fin⟩
    repeat first | exact fg_e | refine fg_d ?_ | refine fg_k rfl ?_
  | false =>
  cases q1 : q == 1 with
  | true =>
    simp (maxSteps := 2000000) (disch := first | omega | (simp only [List.length_append, List.length_cons, List.length_nil, List.length_map] <;> omega)) only [hd, hla, hro, e5, hal, hst, g5, hq, q0, q3, q1, Int.toNat_natCast, flg_bool, exc_bool, exc_int, exc_str, exc_ptr, sk_idxB, idxB_ro, swp_seq, swp_reg, swp_skip, swp_block, swp_cond, seqK_n, condK_t, condK_f, evK_some, appK_eq, srun_nil, srun_cons, stepK_call, sk_mv, sk_take, sk_give, sk_bin, sk_fld, sk_load, sk_store, sk_lenL, sk_alloc, get_mk, raw_slot, raw_lit, put_some, put_none, wb_nil, ev_mv, ev_take, ev_give, ev_fld, bin_eql, bin_lss, ev_ldP, ldP_some, ro_int, ro_bool, ro_str, ro_ptr, got_int, got_bool, got_str, got_ptr, pubs, pubsFrom, List.map_cons, List.map_nil, List.getD_cons_zero, List.getD_cons_succ, List.set_cons_zero, List.set_cons_succ, List.getElem?_cons_zero, List.getElem?_cons_succ, List.replicate_succ, List.replicate_zero, List.cons_append, List.nil_append, Bool.false_eq_true, Option.map_some, ↓reduceIte, Nat.zero_add]
    refine callK_intro (p15 (hok _ _) s3) ?_
    simp (maxSteps := 2000000) (disch := first | omega | (simp only [List.length_append, List.length_cons, List.length_nil, List.length_map] <;> omega)) only [g5, flg_int, flg_str, exc_int, exc_str, exc_ptr, swp_seq, swp_reg, seqK_n, evK_some, appK_eq, appC_eq, srun_nil, srun_cons, stepK_call, sk_mv, sk_give, sk_fld, sk_load, sk_ext, get_mk, raw_slot, put_some, wb_nil, ev_mv, ev_give, ev_fld, ev_ext, ev_ldP, ldP_some, ro_int, ro_str, ro_ptr, ro_tup, ro2_int, ro2_str, got_int, got_str, got_ptr, pubs, pubsFrom, List.map_cons, List.map_nil, List.getD_cons_zero, List.getD_cons_succ, List.set_cons_zero, List.set_cons_succ, List.getElem?_cons_zero, List.getElem?_cons_succ, Bool.false_eq_true, Option.map_some, ↓reduceIte, Nat.zero_add]
    refine callK_intro (p16 (hok _ _) hls2 hP.nd s3) ?_
    simp (maxSteps := 2000000) (disch := first | omega | (simp only [List.length_append, List.length_cons, List.length_nil, List.length_map] <;> omega)) only [g5, x3, x4, grd_t, ev_pick, flg_bool, flg_int, flg_str, exc_int, swp_seq, swp_reg, seqK_n, blkK_n, evK_some, appK_eq, appC_eq, grd_t, srun_nil, srun_cons, stepK_grd, sk_mv, sk_take, sk_give, sk_pick, sk_bin, sk_un, sk_fld, sk_load, sk_ext, get_mk, raw_slot, raw_lit, put_some, wb_nil, ev_mv, ev_take, ev_give, ev_pick, ev_not, ev_fld, ev_ext, bin_eql, bin_eqlS, ev_ldP, ldP_some, ro_int, ro_bool, ro_str, ro_ptr, ro_tup, ro2_int, ro2_str, got_int, List.map_cons, List.map_nil, List.getD_cons_zero, List.getD_cons_succ, List.set_cons_zero, List.set_cons_succ, List.getElem?_cons_zero, List.getElem?_cons_succ, Bool.false_eq_true, Option.map_some, ↓reduceIte, Nat.zero_add, Bool.not_true]
    obtain ⟨n, hn⟩ : ∃ n, szF V b.num = n := ⟨_, rfl⟩
    have hPW : Pl (i + 1) V := hP.next
    obtain ⟨t19, t20, t21, t22⟩ := tail V n hn (by have := hPW.ls; omega) (by have := hPW.ln; omega)
    have z1 : (n != n) = false := by simp
    have z2 : ((V.s.length : Int) != (V.s.length : Int)) = false := by simp
    have z3 : ((V.n.length : Int) != (V.n.length : Int)) = false := by simp
    apply swp_to
    · repeat' first | exact swp_ttI | refine swp_bothI ?_ ?_ | refine callK_intro t19 ?_ | refine callK_intro t20 ?_ | refine callK_intro t21 ?_ | refine callK_intro t22 ?_ | exact ⟨rfl, rfl⟩ | exact rfl | simp (maxSteps := 2000000) (disch := first | omega | (simp only [List.length_append, List.length_cons, List.length_nil, List.length_map] <;> omega)) only [g5, hy4, hlo, hln, ro_ownV, z1, z2, z3, grd_t, ev_pick, exc_int, exc_ptr, swp_seq, swp_reg, seqK_n, evK_some, appK_eq, appC_eq, grd_t, srun_nil, srun_cons, stepK_call, stepK_grd, sk_mv, sk_pick, sk_bin, sk_nilc, sk_fld, sk_load, sk_lenL, get_mk, raw_slot, raw_lit, put_some, wb_nil, ev_mv, ev_pick, ev_nilc, ev_fld, bin_neq, ev_ldP, ldP_some, ro_int, ro_bool, ro_ptr, got_int, got_ptr, pubs, pubsFrom, List.map_cons, List.map_nil, List.getD_cons_zero, List.getD_cons_succ, List.set_cons_zero, List.set_cons_succ, List.getElem?_cons_zero, List.getElem?_cons_succ, true_and, Bool.false_eq_true, Option.map_some, ↓reduceIte, Nat.zero_add]
    simp (maxSteps := 2000000) (disch := first | omega | (simp only [List.length_append, List.length_cons, List.length_nil, List.length_map] <;> omega)) only [lpK_n, flg_int, swp_reg, swp_skip, swp_cond, seqK_n, blkK_n, condK_f, evK_some, appK_eq, srun_nil, srun_cons, sk_mv, sk_give, sk_bin, get_mk, raw_slot, raw_lit, put_some, wb_nil, ev_mv, ev_give, bin_add, ro_int, List.map_cons, List.map_nil, List.getD_cons_zero, List.getD_cons_succ, List.set_cons_zero, List.set_cons_succ, Bool.false_eq_true, ↓reduceIte, wrap_i64]
    refine ⟨_, Forget.cut ?_ (show (DY V0 V0 []).length ≤ (DY V V []).length from Nat.le_refl 5) (hDX V) hid (DY_ok V V rfl), ⟨i + 1, V, by omega, hPW, rfl⟩, fin⟩
    repeat first | exact fg_e | refine fg_d ?_ | refine fg_k rfl ?_
  | false =>
  cases q2 : q == 2 with
  | true =>
    simp (maxSteps := 2000000) (disch := first | omega | (simp only [List.length_append, List.length_cons, List.length_nil, List.length_map] <;> omega)) only [hd, hla, hro, e5, hal, hst, g5, hq, q0, q3, q1, q2, Int.toNat_natCast, flg_bool, exc_bool, exc_int, exc_str, exc_ptr, sk_idxB, idxB_ro, swp_seq, swp_reg, swp_skip, swp_block, swp_cond, seqK_n, condK_t, condK_f, evK_some, appK_eq, srun_nil, srun_cons, stepK_call, sk_mv, sk_take, sk_give, sk_bin, sk_fld, sk_load, sk_store, sk_lenL, sk_alloc, get_mk, raw_slot, raw_lit, put_some, put_none, wb_nil, ev_mv, ev_take, ev_give, ev_fld, bin_eql, bin_lss, ev_ldP, ldP_some, ro_int, ro_bool, ro_str, ro_ptr, got_int, got_bool, got_str, got_ptr, pubs, pubsFrom, List.map_cons, List.map_nil, List.getD_cons_zero, List.getD_cons_succ, List.set_cons_zero, List.set_cons_succ, List.getElem?_cons_zero, List.getElem?_cons_succ, List.replicate_succ, List.replicate_zero, List.cons_append, List.nil_append, Bool.false_eq_true, Option.map_some, ↓reduceIte, Nat.zero_add]
    refine callK_intro (p17 (hok _ _) hlt s2) ?_
    simp (maxSteps := 2000000) (disch := first | omega | (simp only [List.length_append, List.length_cons, List.length_nil, List.length_map] <;> omega)) only [g5, flg_int, exc_int, exc_str, exc_ptr, swp_seq, swp_reg, seqK_n, evK_some, appK_eq, appC_eq, srun_nil, srun_cons, stepK_call, sk_mv, sk_give, sk_fld, sk_load, sk_ext, get_mk, raw_slot, put_some, wb_nil, ev_mv, ev_give, ev_fld, ev_ext, ev_ldP, ldP_some, ro_int, ro_str, ro_ptr, ro_tup, ro2_int, got_int, got_str, got_ptr, pubs, pubsFrom, List.map_cons, List.map_nil, List.getD_cons_zero, List.getD_cons_succ, List.set_cons_zero, List.set_cons_succ, List.getElem?_cons_zero, List.getElem?_cons_succ, Bool.false_eq_true, Option.map_some, ↓reduceIte, Nat.zero_add]
    refine callK_intro (p18 hln2 hP.t s2) ?_
    simp (maxSteps := 2000000) (disch := first | omega | (simp only [List.length_append, List.length_cons, List.length_nil, List.length_map] <;> omega)) only [g5, x5, x6, grd_t, ev_pick, flg_bool, flg_int, exc_int, swp_seq, swp_reg, seqK_n, blkK_n, evK_some, appK_eq, appC_eq, grd_t, srun_nil, srun_cons, stepK_grd, sk_mv, sk_take, sk_give, sk_pick, sk_bin, sk_un, sk_fld, sk_load, sk_ext, get_mk, raw_slot, raw_lit, put_some, wb_nil, ev_mv, ev_take, ev_give, ev_pick, ev_not, ev_fld, ev_ext, bin_eql, ev_ldP, ldP_some, ro_int, ro_bool, ro_ptr, ro_tup, ro2_int, got_int, List.map_cons, List.map_nil, List.getD_cons_zero, List.getD_cons_succ, List.set_cons_zero, List.set_cons_succ, List.getElem?_cons_zero, List.getElem?_cons_succ, Bool.false_eq_true, Option.map_some, ↓reduceIte, Nat.zero_add, Bool.not_true]
    obtain ⟨n, hn⟩ : ∃ n, szF W2 b.num = n := ⟨_, rfl⟩
    have hPW : Pl (i + 1) W2 := k2
    obtain ⟨t19, t20, t21, t22⟩ := tail W2 n hn (by have := hPW.ls; omega) (by have := hPW.ln; omega)
    have z1 : (n != n) = false := by simp
    have z2 : ((W2.s.length : Int) != (W2.s.length : Int)) = false := by simp
    have z3 : ((W2.n.length : Int) != (W2.n.length : Int)) = false := by simp
    apply swp_to
    · repeat' first | exact swp_ttI | refine swp_bothI ?_ ?_ | refine callK_intro t19 ?_ | refine callK_intro t20 ?_ | refine callK_intro t21 ?_ | refine callK_intro t22 ?_ | exact ⟨rfl, rfl⟩ | exact rfl | simp (maxSteps := 2000000) (disch := first | omega | (simp only [List.length_append, List.length_cons, List.length_nil, List.length_map] <;> omega)) only [g5, hy4, hlo, hln, ro_ownV, z1, z2, z3, grd_t, ev_pick, exc_int, exc_ptr, swp_seq, swp_reg, seqK_n, evK_some, appK_eq, appC_eq, grd_t, srun_nil, srun_cons, stepK_call, stepK_grd, sk_mv, sk_pick, sk_bin, sk_nilc, sk_fld, sk_load, sk_lenL, get_mk, raw_slot, raw_lit, put_some, wb_nil, ev_mv, ev_pick, ev_nilc, ev_fld, bin_neq, ev_ldP, ldP_some, ro_int, ro_bool, ro_ptr, got_int, got_ptr, pubs, pubsFrom, List.map_cons, List.map_nil, List.getD_cons_zero, List.getD_cons_succ, List.set_cons_zero, List.set_cons_succ, List.getElem?_cons_zero, List.getElem?_cons_succ, true_and, Bool.false_eq_true, Option.map_some, ↓reduceIte, Nat.zero_add]
    simp (maxSteps := 2000000) (disch := first | omega | (simp only [List.length_append, List.length_cons, List.length_nil, List.length_map] <;> omega)) only [lpK_n, flg_int, swp_reg, swp_skip, swp_cond, seqK_n, blkK_n, condK_f, evK_some, appK_eq, srun_nil, srun_cons, sk_mv, sk_give, sk_bin, get_mk, raw_slot, raw_lit, put_some, wb_nil, ev_mv, ev_give, bin_add, ro_int, List.map_cons, List.map_nil, List.getD_cons_zero, List.getD_cons_succ, List.set_cons_zero, List.set_cons_succ, Bool.false_eq_true, ↓reduceIte, wrap_i64]
    refine ⟨_, Forget.cut ?_ (show (DY V0 V0 []).length ≤ (DY W2 W2 []).length from Nat.le_refl 5) (hDX W2) hid (DY_ok W2 W2 rfl), ⟨i + 1, W2, by omega, hPW, rfl⟩, fin⟩
    repeat first | exact fg_e | refine fg_d ?_ | refine fg_k rfl ?_
  | false =>
    simp (maxSteps := 2000000) (disch := first | omega | (simp only [List.length_append, List.length_cons, List.length_nil, List.length_map] <;> omega)) only [hd, hla, hro, e5, hal, hst, g5, hq, q0, q3, q1, q2, Int.toNat_natCast, flg_bool, exc_bool, sk_idxB, idxB_ro, swp_seq, swp_reg, swp_skip, swp_block, swp_cond, seqK_n, blkK_n, condK_t, condK_f, evK_some, appK_eq, grd_t, srun_nil, srun_cons, stepK_grd, sk_mv, sk_take, sk_give, sk_bin, sk_un, sk_fld, sk_load, sk_store, sk_lenL, sk_alloc, get_mk, raw_slot, raw_lit, put_some, put_none, wb_nil, ev_mv, ev_take, ev_give, ev_not, ev_fld, bin_eql, bin_lss, ev_ldP, ldP_some, ro_int, ro_bool, ro_ptr, got_bool, List.map_cons, List.map_nil, List.getD_cons_zero, List.getD_cons_succ, List.set_cons_zero, List.set_cons_succ, List.getElem?_cons_zero, List.getElem?_cons_succ, List.replicate_succ, List.replicate_zero, List.cons_append, List.nil_append, Bool.false_eq_true, Option.map_some, ↓reduceIte, Nat.zero_add, Bool.not_true]
    obtain ⟨n, hn⟩ : ∃ n, szF V b.num = n := ⟨_, rfl⟩
    have hPW : Pl (i + 1) V := hP.next
    obtain ⟨t19, t20, t21, t22⟩ := tail V n hn (by have := hPW.ls; omega) (by have := hPW.ln; omega)
    have z1 : (n != n) = false := by simp
    have z2 : ((V.s.length : Int) != (V.s.length : Int)) = false := by simp
    have z3 : ((V.n.length : Int) != (V.n.length : Int)) = false := by simp
    apply swp_to
    · repeat' first | exact swp_ttI | refine swp_bothI ?_ ?_ | refine callK_intro t19 ?_ | refine callK_intro t20 ?_ | refine callK_intro t21 ?_ | refine callK_intro t22 ?_ | exact ⟨rfl, rfl⟩ | exact rfl | simp (maxSteps := 2000000) (disch := first | omega | (simp only [List.length_append, List.length_cons, List.length_nil, List.length_map] <;> omega)) only [g5, hy4, hlo, hln, ro_ownV, z1, z2, z3, grd_t, ev_pick, exc_int, exc_ptr, swp_seq, swp_reg, seqK_n, evK_some, appK_eq, appC_eq, grd_t, srun_nil, srun_cons, stepK_call, stepK_grd, sk_mv, sk_pick, sk_bin, sk_nilc, sk_fld, sk_load, sk_lenL, get_mk, raw_slot, raw_lit, put_some, wb_nil, ev_mv, ev_pick, ev_nilc, ev_fld, bin_neq, ev_ldP, ldP_some, ro_int, ro_bool, ro_ptr, got_int, got_ptr, pubs, pubsFrom, List.map_cons, List.map_nil, List.getD_cons_zero, List.getD_cons_succ, List.set_cons_zero, List.set_cons_succ, List.getElem?_cons_zero, List.getElem?_cons_succ, true_and, Bool.false_eq_true, Option.map_some, ↓reduceIte, Nat.zero_add]
    simp (maxSteps := 2000000) (disch := first | omega | (simp only [List.length_append, List.length_cons, List.length_nil, List.length_map] <;> omega)) only [lpK_n, flg_int, swp_reg, swp_skip, swp_cond, seqK_n, blkK_n, condK_f, evK_some, appK_eq, srun_nil, srun_cons, sk_mv, sk_give, sk_bin, get_mk, raw_slot, raw_lit, put_some, wb_nil, ev_mv, ev_give, bin_add, ro_int, List.map_cons, List.map_nil, List.getD_cons_zero, List.getD_cons_succ, List.set_cons_zero, List.set_cons_succ, Bool.false_eq_true, ↓reduceIte, wrap_i64]
    refine ⟨_, Forget.cut ?_ (show (DY V0 V0 []).length ≤ (DY V V []).length from Nat.le_refl 5) (hDX V) hid (DY_ok V V rfl), ⟨i + 1, V, by omega, hPW, rfl⟩, fin⟩
    repeat first | exact fg_e | refine fg_d ?_ | refine fg_k rfl ?_
end Go.Sh.F
