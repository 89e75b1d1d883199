/-
  VaultBlind, in the shadow machine.
-/
import Derived.Test.YtmbaokfcdfhfeaaV9
set_option linter.unusedSimpArgs false
set_option linter.unusedVariables false
namespace Go.Sh.F
/-- Two vaults, and what is behind them. -/
def D3 (V W : VS) (X : List Ob) : List Ob := At [] 0 V (vobs 4 W ++ X)
theorem D3_ok (V W : VS) {X : List Ob} (h : X.all (obOk (8 + X.length)) = true) : okSt (D3 V W X) := by
  show (vobs 0 V ++ (vobs 4 W ++ X)).all (obOk (vobs 0 V ++ (vobs 4 W ++ X)).length) = true
  have e : (vobs 0 V ++ (vobs 4 W ++ X)).length = 8 + X.length := by simp [vobs]; omega
  rw [e, List.all_append, List.all_append, vobs_ok (by omega), vobs_ok (by omega), h]; rfl
section
variable {V V' W W' : VS} {X : List Ob} {key x a e n nonce : Int} {ad plain y label : List UInt8}
theorem d12 : O48 12 [] (Sp [] V0) (.ptr 7 0) (D3 V0 V0 []) := h12 (Sp [] V0)
theorem d13v (ho : okSt (D3 V W X)) (hl : V.s.length < 4294967296) (hr : sealF V key ad plain nonce = ((a, e), V')) : O48 13 [.ptr 3 0, .int .i64 key, .str ad, .str plain, .int .i64 nonce] (D3 V W X) (.tup [.int .i64 a, .int .i64 e]) (D3 V' W X) := .inl (g13 (pre := []) (m := 0) rfl ho hl hr)
theorem d13w (ho : okSt (D3 V W X)) (hl : W.s.length < 4294967296) (hr : sealF W key ad plain nonce = ((a, e), W')) : O48 13 [.ptr 7 0, .int .i64 key, .str ad, .str plain, .int .i64 nonce] (D3 V W X) (.tup [.int .i64 a, .int .i64 e]) (D3 V W' X) := .inl (g13 (pre := vobs 0 V) (m := 4) (post := X) rfl ho hl hr)
theorem d17v (ho : okSt (D3 V W X)) (hl : V.t.length < 4294967296) (hr : nameF V key label nonce = ((a, e), V')) : O48 17 [.ptr 3 0, .int .i64 key, .str label, .int .i64 nonce] (D3 V W X) (.tup [.int .i64 a, .int .i64 e]) (D3 V' W X) := .inl (g17 (pre := []) (m := 0) rfl ho hl hr)
theorem d17w (ho : okSt (D3 V W X)) (hl : W.t.length < 4294967296) (hr : nameF W key label nonce = ((a, e), W')) : O48 17 [.ptr 7 0, .int .i64 key, .str label, .int .i64 nonce] (D3 V W X) (.tup [.int .i64 a, .int .i64 e]) (D3 V W' X) := .inl (g17 (pre := vobs 0 V) (m := 4) (post := X) rfl ho hl hr)
theorem d19v (ho : okSt (D3 V W X)) (hr : szF V x = n) : O48 19 [.ptr 3 0, .int .i64 x] (D3 V W X) (.int .i64 n) (D3 V W X) := .inl (g19 (pre := []) (m := 0) rfl ho hr)
theorem d19w (ho : okSt (D3 V W X)) (hr : szF W x = n) : O48 19 [.ptr 7 0, .int .i64 x] (D3 V W X) (.int .i64 n) (D3 V W X) := .inl (g19 (pre := vobs 0 V) (m := 4) (post := X) rfl ho hr)
end
theorem mget_map {κ α β : Type} [BEq κ] {f : α → β} {k : κ} : ∀ {l : List (κ × α)}, mget k (l.map fun p => (p.1, f p.2)) = (mget k l).map f
  | [] => rfl
  | p :: l => by
    rw [List.map_cons]
    simp only [mget]
    split
    · rfl
    · exact mget_map
theorem mput_map {κ α β : Type} [BEq κ] {f : α → β} {k : κ} {x : α} : ∀ {l : List (κ × α)}, mput k (f x) (l.map fun p => (p.1, f p.2)) = (mput k x l).map fun p => (p.1, f p.2)
  | [] => rfl
  | p :: l => by
    rw [List.map_cons]
    simp only [mput]
    split
    · rfl
    · rw [mput_map]; rfl
def genV (d : Cl → Sd) (zs : List (Int × Cl)) : VS := ⟨zs.map fun p => (p.1, d p.2), [], []⟩
def a0 (zs : List (Int × Cl)) (nonce : Int) : Int := drawF (fun x => (mget x zs).isSome) zs.length (maskF nonce)
theorem isS_gen (d : Cl → Sd) (zs : List (Int × Cl)) : isS (genV d zs) = fun x => (mget x zs).isSome := by
  funext x
  show (mget x (zs.map fun p => (p.1, d p.2))).isSome = _
  rw [mget_map]
  cases mget x zs <;> rfl
theorem seal_gen {d : Cl → Sd} {zs : List (Int × Cl)} {c : Cl} {nonce : Int} (hl : zs.length < 16384) (hb : 0 ≤ bucketF (d c).2.2.length) : sealF (genV d zs) (d c).1 (d c).2.1 (d c).2.2 nonce = ((a0 zs nonce, 0), genV d (mput (a0 zs nonce) c zs)) := by
  have hl2 : (genV d zs).s.length = zs.length := by simp [genV]
  rw [seal_yes (by omega) (by rw [hl2]; exact hl), isS_gen, hl2]
  show ((a0 zs nonce, 0), ({ genV d zs with s := mput (a0 zs nonce) (d c) (zs.map fun p => (p.1, d p.2)) } : VS)) = _
  rw [mput_map]; rfl
theorem mput_len' {κ α : Type} [BEq κ] {k : κ} {x : α} : ∀ {l : List (κ × α)}, (mput k x l).length ≤ l.length + 1
  | [] => by simp [mput]
  | p :: l => by
    simp only [mput]
    split
    · simp
    · have := mput_len' (k := k) (x := x) (l := l); simp; omega
theorem sz_gen {d g : Cl → Sd} (h : ∀ c, (d c).2.2.length = (g c).2.2.length) (zs : List (Int × Cl)) (x : Int) : szF (genV d zs) x = szF (genV g zs) x := by
  have h1 : mget x (genV d zs).s = (mget x zs).map d := mget_map
  have h2 : mget x (genV g zs).s = (mget x zs).map g := mget_map
  unfold szF
  rw [h1, h2]
  cases mget x zs with
  | none => rfl
  | some c => simp only [Option.map_some, h c]
def sdC (c : Cl) : Sd := (c.key, c.ad, c.plain)
def xorK (a b : Int) : Int := IntKind.i64.wrap (BitVec.ofInt IntKind.i64.bits a ^^^ BitVec.ofInt IntKind.i64.bits b).toNat
def gC (key : Int) (y : UInt8) (c : Cl) : Sd := (xorK c.key key, c.ad ++ [120], c.plain.map (· ^^^ y))
theorem ofInt_u8 (a : UInt8) : BitVec.ofInt 8 (a.toNat : Int) = a.toBitVec := by
  rw [BitVec.ofInt_natCast]
  apply BitVec.eq_of_toNat_eq
  simp
theorem xor8 {st : List Ob} (a b : UInt8) : ev st (.bin .xor) [.int .u8 a.toNat, .int .u8 b.toNat] = some (.int .u8 (a ^^^ b).toNat, [], st) := by
  rw [bin_xor]
  have h : (BitVec.ofInt IntKind.u8.bits (a.toNat : Int) ^^^ BitVec.ofInt IntKind.u8.bits (b.toNat : Int)).toNat = (a ^^^ b).toNat := by
    show (BitVec.ofInt 8 (a.toNat : Int) ^^^ BitVec.ofInt 8 (b.toNat : Int)).toNat = _
    rw [ofInt_u8, ofInt_u8]; rfl
  rw [h]
  have hl : (a ^^^ b).toNat < 256 := (a ^^^ b).toNat_lt
  have hw : IntKind.u8.wrap ((a ^^^ b).toNat : Int) = (a ^^^ b).toNat := by rw [wrap_u8]; omega
  rw [hw]
theorem byte_of {n : Int} (h0 : 0 ≤ n) (h1 : n ≤ 255) : ∃ y : UInt8, n = y.toNat := ⟨UInt8.ofNat n.toNat, by simp only [UInt8.toNat_ofNat']; omega⟩
theorem idOks_fC (k : Nat) (l : List Cl) : idOks k (l.flatMap fC) = true := by
  induction l with
  | nil => rfl
  | cons x l ih => rw [List.flatMap_cons, idOks_app, ih]; rfl
set_option maxHeartbeats 8000000 in
set_option maxRecDepth 50000 in
theorem fBlind (v : SV) (l : List Cl) (key by_ : Int) (hv : rdR fC v l) (hl : l.length ≤ 1048576) (hs : ∀ c ∈ l, c.ad.length ≤ 1048576 ∧ c.plain.length ≤ 1048576) (hb0 : 0 ≤ by_) (hb1 : by_ ≤ 255) :
    swpF O49 sf5 [v, .int .i64 key, .int .u8 by_] [] (fun r _ => r = .bool true) := by
  have ho : okSt [] := okSt_nil
  obtain ⟨y, rfl⟩ := byte_of hb0 hb1
  obtain ⟨hro, hgot, hexc, hflg, hla⟩ := rdR_facts hv
  simp (maxSteps := 2000000) (disch := first | omega | (simp only [List.length_append, List.length_cons, List.length_nil, List.length_map] <;> omega)) only [sf5, flg_bool, swp_seq, swp_reg, seqK_n, evK_some, appK_eq, srun_nil, srun_cons, stepK_call, swpF_eq, sk_give, raw_lit, put_some, wb_nil, ev_give, ro_bool, pubs, pubsFrom, List.map_cons, List.map_nil, List.set_cons_zero, List.set_cons_succ, List.length_cons, List.length_nil, List.replicate_succ, List.replicate_zero, List.cons_append, List.nil_append, Nat.reduceAdd, Nat.reduceSub, Bool.false_eq_true, ↓reduceIte, Nat.zero_add]
  refine callK_intro (h10 ho) ?_
  simp (maxSteps := 2000000) (disch := first | omega | (simp only [List.length_append, List.length_cons, List.length_nil, List.length_map] <;> omega)) only [hro, hgot, hexc, flg_bool, swp_seq, swp_reg, seqK_n, evK_some, appK_eq, appC_eq, srun_nil, srun_cons, stepK_call, sk_mv, sk_give, get_mk, raw_slot, put_some, wb_nil, ev_mv, ev_give, ro_bool, pubs, pubsFrom, List.map_cons, List.map_nil, List.getD_cons_zero, List.getD_cons_succ, List.set_cons_zero, List.set_cons_succ, Bool.false_eq_true, ↓reduceIte]
  refine callK_intro (.inl (few_ok hv (by omega) (fun c hc => by have := hs c hc; omega) _)) ?_
  simp (maxSteps := 2000000) (disch := first | omega | (simp only [List.length_append, List.length_cons, List.length_nil, List.length_map] <;> omega)) only [flg_bool, swp_seq, swp_reg, seqK_n, evK_some, appK_eq, appC_eq, srun_nil, srun_cons, stepK_call, sk_give, get_mk, raw_slot, put_some, wb_nil, ev_give, ro_bool, pubs, pubsFrom, List.map_cons, List.map_nil, List.getD_cons_zero, List.getD_cons_succ, List.set_cons_zero, List.set_cons_succ, Bool.false_eq_true, ↓reduceIte]
  refine callK_intro (.inl (h12 _)) ?_
  simp (maxSteps := 2000000) (disch := first | omega | (simp only [List.length_append, List.length_cons, List.length_nil, List.length_map] <;> omega)) only [flg_ptr, swp_seq, swp_reg, seqK_n, evK_some, appK_eq, appC_eq, srun_nil, srun_cons, stepK_call, sk_give, get_mk, raw_slot, put_some, wb_nil, ev_give, ro_ptr, pubs, pubsFrom, List.map_cons, List.map_nil, List.getD_cons_zero, List.getD_cons_succ, List.set_cons_zero, List.set_cons_succ, List.length_nil, Bool.false_eq_true, ↓reduceIte, Nat.zero_add]
  refine callK_intro (.inl d12) ?_
  cases hf : fewF l with
  | false =>
    simp (maxSteps := 2000000) (disch := first | omega | (simp only [List.length_append, List.length_cons, List.length_nil, List.length_map] <;> omega)) only [grd_t, ev_pick, flg_bool, flg_ptr, exc_bool, exc_ptr, swp_seq, swp_reg, swp_ret, swp_cond, seqK_n, seqK_r, condK_t, evK_some, appK_eq, appC_eq, grd_t, srun_nil, srun_cons, stepK_grd, fin_ret, sk_mv, sk_take, sk_give, sk_pick, sk_eqN, sk_un, get_mk, raw_slot, raw_lit, put_some, wb_nil, ev_mv, ev_take, ev_give, ev_pick, ev_not, ev_eqNp2, ro_bool, ro_ptr, got_bool, got_ptr, List.map_cons, List.map_nil, List.getD_cons_zero, List.getD_cons_succ, List.set_cons_zero, List.set_cons_succ, List.length_nil, and_true, Bool.false_eq_true, ↓reduceIte, Bool.not_false]
    exact ⟨[], .inr ⟨by simp, by simp, rfl, rfl⟩⟩
  | true =>
  have hf2 : l.length ≤ 100 := by
    unfold fewF at hf
    simp only [Bool.and_eq_true, decide_eq_true_eq] at hf
    exact hf.2
  have h5 := fC_len l
  simp (maxSteps := 2000000) (disch := first | omega | (simp only [List.length_append, List.length_cons, List.length_nil, List.length_map] <;> omega)) only [grd_t, ev_pick, flg_ptr, exc_bool, exc_int, exc_ptr, swp_seq, swp_reg, swp_skip, swp_block, swp_cond, seqK_n, condK_f, evK_some, appK_eq, appC_eq, grd_t, srun_nil, srun_cons, stepK_grd, sk_mv, sk_take, sk_give, sk_pick, sk_eqN, sk_un, get_mk, raw_slot, raw_lit, put_some, wb_nil, ev_mv, ev_take, ev_give, ev_pick, ev_not, ev_eqNp2, ro_bool, ro_ptr, got_int, got_bool, got_ptr, List.map_cons, List.map_nil, List.getD_cons_zero, List.getD_cons_succ, List.set_cons_zero, List.set_cons_succ, Bool.false_eq_true, ↓reduceIte, Bool.not_true]
  refine swp_lp (fun S => ∃ (i : Nat) (zs : List (Int × Cl)), i ≤ l.length ∧ zs.length ≤ i ∧
      S = ⟨[v, .int .i64 key, .int .u8 y.toNat, .undef, .undef, .undef, .bool false, .bool true, .bool true, .ptr 3 0, .ptr 7 0, .int .i64 i] ++ List.replicate 125 .undef, D3 (genV sdC zs) (genV (gC key y) zs) []⟩)
      (fun S => match S.get 11 with | .int _ k => ((l.length : Int) - k).toNat | _ => 0)
      ⟨[v, .int .i64 key, .int .u8 y.toNat, .undef, .undef, .undef, .bool false, .bool true, .bool true, .ptr 3 0, .ptr 7 0, .int .i64 0] ++ List.replicate 125 .undef, D3 (genV sdC []) (genV (gC key y) []) []⟩ ?_ ⟨0, [], by omega, by simp, rfl⟩ ?_
  · refine Forget.of ?_
    repeat first | exact fg_e | refine fg_d ?_ | refine fg_k rfl ?_
  rintro S ⟨i, zs, hi, hzi, rfl⟩
  by_cases him : i = l.length
  · subst him
    have hd : decide ((l.length : Int) < (l.length : Int)) = false := by simp
    simp (maxSteps := 2000000) (disch := first | omega | (simp only [List.length_append, List.length_cons, List.length_nil, List.length_map] <;> omega)) only [hd, hla, lpK_e, flg_bool, swp_seq, swp_reg, swp_ret, swp_exit, swp_cond, seqK_n, seqK_e, blkK_e, condK_f, evK_some, appK_eq, srun_nil, srun_cons, fin_ret, sk_mv, sk_give, sk_bin, sk_lenL, get_mk, raw_slot, put_some, wb_nil, ev_mv, ev_give, bin_lss, ro_int, ro_bool, List.map_cons, List.map_nil, List.getD_cons_zero, List.getD_cons_succ, List.set_cons_zero, List.set_cons_succ, List.length_nil, List.replicate_succ, List.replicate_zero, List.cons_append, List.nil_append, and_true, Bool.false_eq_true, ↓reduceIte]
    exact ⟨[], .inr ⟨by simp, by simp, rfl, rfl⟩⟩
  have hd : decide ((i : Int) < (l.length : Int)) = true := by simp; omega
  have hil : i < l.length := by omega
  have hvv : v = .sl (l.flatMap fC) l.length .ro := by
    rcases hv with ⟨_, h⟩ | h
    · subst h; simp at hil
    · exact h
  subst hvv
  obtain ⟨c, hc⟩ : ∃ c, c = l[i] := ⟨_, rfl⟩
  have e1 := fC_at hil 1 (by omega)
  have e2 := fC_at hil 2 (by omega)
  have e3 := fC_at hil 3 (by omega)
  have e4 := fC_at hil 4 (by omega)
  rw [← hc] at e1 e2 e3 e4
  change _ = some (SV.int .i64 c.key) at e1
  change _ = some (SV.int .i64 c.num) at e2
  change _ = some (SV.str c.ad) at e3
  change _ = some (SV.str c.plain) at e4
  obtain ⟨q1, q2⟩ := hs c (by rw [hc]; exact List.getElem_mem hil)
  obtain ⟨V, hV⟩ : ∃ V, V = genV sdC zs := ⟨_, rfl⟩
  obtain ⟨W, hW⟩ : ∃ W, W = genV (gC key y) zs := ⟨_, rfl⟩
  rw [← hV, ← hW]
  have hs2b : ∀ st, ev st .s2b [.str c.plain] = some (.sl (bsv c.plain) c.plain.length (.excl 1), [], st) := fun _ => ev_s2b (by omega)
  have hgo : ev (D3 V W []) .giveO [.sl (bsv c.plain) c.plain.length (.excl 1)] = some (.slo 8 0 c.plain.length, [(0, .undef)], D3 V W [.cells (bsv c.plain)]) := rfl
  simp (maxSteps := 2000000) (disch := first | omega | (simp only [List.length_append, List.length_cons, List.length_nil, List.length_map] <;> omega)) only [hd, hla, e4, hs2b, hgo, ev_fldE, Int.toNat_natCast, sk_giveO, exc_int, sk_idxB, idxB_ro, swp_seq, swp_reg, swp_skip, swp_block, swp_cond, seqK_n, condK_t, evK_some, appK_eq, srun_nil, srun_cons, sk_mv, sk_take, sk_bin, sk_s2b, sk_fld, sk_load, sk_lenL, get_mk, raw_slot, raw_lit, put_some, wb_nil, wb_cons, ev_mv, ev_take, bin_lss, ev_loadE, ro_int, ro_str, ro_ro, got_int, List.map_cons, List.map_nil, List.getD_cons_zero, List.getD_cons_succ, List.set_cons_zero, List.set_cons_succ, List.getElem?_cons_zero, List.replicate_succ, List.replicate_zero, List.cons_append, List.nil_append, Bool.false_eq_true, Option.map_some, ↓reduceIte]
  refine swp_lp (fun S => ∃ (k : Nat) (B : List UInt8), k ≤ c.plain.length ∧ B.length = c.plain.length ∧ (∀ j, B[j]? = if j < k then (c.plain[j]?).map (· ^^^ y) else c.plain[j]?) ∧
      S = ⟨[.sl (l.flatMap fC) l.length .ro, .int .i64 key, .int .u8 y.toNat, .undef, .undef, .undef, .bool false, .bool true, .bool true, .ptr 3 0, .ptr 7 0, .int .i64 i, .slo 8 0 c.plain.length, .int .i64 k] ++ List.replicate 123 .undef, D3 V W [.cells (bsv B)]⟩)
      (fun S => match S.get 13 with | .int _ k => ((c.plain.length : Int) - k).toNat | _ => 0)
      ⟨[.sl (l.flatMap fC) l.length .ro, .int .i64 key, .int .u8 y.toNat, .undef, .undef, .undef, .bool false, .bool true, .bool true, .ptr 3 0, .ptr 7 0, .int .i64 i, .slo 8 0 c.plain.length, .int .i64 0] ++ List.replicate 123 .undef, D3 V W [.cells (bsv c.plain)]⟩ ?_ ⟨0, c.plain, by omega, rfl, fun j => by simp, rfl⟩ ?_
  · refine Forget.of ?_
    repeat first | exact fg_e | refine fg_d ?_ | refine fg_k rfl ?_
  rintro S ⟨k, B, hk, hBl, hB, rfl⟩
  have g8 : ∀ A, (D3 V W [.cells A])[8]? = some (.cells A) := fun _ => rfl
  have hso : ∀ A l, setOb (D3 V W [.cells A]) 8 l = D3 V W [.cells l] := fun _ _ => rfl
  by_cases hkz : k = c.plain.length
  case neg =>
    have hkl : k < c.plain.length := by omega
    have hkb : k < B.length := by omega
    have hdk : decide ((k : Int) < (c.plain.length : Int)) = true := by simp; omega
    have hget : (bsv B)[k]? = some (.int .u8 (B[k]).toNat) := bsv_at _ _ _ (List.getElem?_eq_getElem hkb)
    have hbb : (bsv B).length = c.plain.length := by rw [bsv_len, hBl]
    have hset : (bsv B).set k (.int .u8 (B[k] ^^^ y).toNat) = bsv (B.set k (B[k] ^^^ y)) := by simp [bsv, List.map_set]
    simp (maxSteps := 2000000) (disch := first | omega | (simp only [List.length_append, List.length_cons, List.length_nil, List.length_map] <;> omega)) only [hdk, hkl, hget, xor8, hset, hbb, g8, hso, Nat.mul_one, Nat.zero_add, lpK_n, Int.toNat_natCast, ro_slo, ev_lenO, flg_int, sk_idxB, idxB_O, swp_seq, swp_reg, swp_skip, swp_block, swp_cond, seqK_n, blkK_n, condK_t, evK_some, appK_eq, srun_nil, srun_cons, sk_mv, sk_give, sk_bin, sk_load, sk_store, sk_lenL, get_mk, raw_slot, raw_lit, put_some, put_none, wb_nil, ev_mv, ev_give, bin_add, bin_lss, ev_ldP, ldP_some, stP_some, ro_int, List.map_cons, List.map_nil, List.getD_cons_zero, List.getD_cons_succ, List.set_cons_zero, List.set_cons_succ, List.replicate_succ, List.replicate_zero, List.cons_append, List.nil_append, Bool.false_eq_true, Option.map_some, ↓reduceIte, Nat.mul_one, Nat.zero_add, st_int, wrap_i64]
    refine ⟨_, ?_, ⟨k + 1, B.set k (B[k] ^^^ y), by omega, by simp [hBl], fun j => ?_, rfl⟩, ?_⟩
    · refine Forget.of ?_
      repeat first | exact fg_e | refine fg_d ?_ | refine fg_k rfl ?_
    · rw [List.getElem?_set]
      by_cases hj : k = j
      · subst hj
        have hBk := hB k
        rw [if_neg (by omega), List.getElem?_eq_getElem hkl, List.getElem?_eq_getElem hkb] at hBk
        rw [if_pos rfl, if_pos hkb, if_pos (by omega), List.getElem?_eq_getElem hkl, Option.some.inj hBk]; rfl
      · rw [if_neg hj, hB j]
        by_cases hjk : j < k
        · rw [if_pos hjk, if_pos (by omega)]
        · rw [if_neg hjk, if_neg (by omega)]
    · show ((c.plain.length : Int) - ((k + 1 : Nat) : Int)).toNat < ((c.plain.length : Int) - (k : Int)).toNat
      omega
  subst hkz
  have hBe : B = c.plain.map (· ^^^ y) := by
    apply List.ext_getElem?
    intro j
    rw [hB j, List.getElem?_map]
    by_cases hj : j < c.plain.length
    · rw [if_pos hj]
    · rw [if_neg hj, List.getElem?_eq_none (by omega)]; rfl
  subst hBe
  have hdk : decide ((c.plain.length : Int) < (c.plain.length : Int)) = false := by simp
  have hb2 : ∀ V W, ev (D3 V W [.cells (bsv (c.plain.map (· ^^^ y)))]) .b2s [.slo 8 0 c.plain.length] = some (.str (c.plain.map (· ^^^ y)), [], D3 V W [.cells (bsv (c.plain.map (· ^^^ y)))]) := fun V W => b2O_bsv rfl hBl.symm
  have hok : ∀ V W, okSt (D3 V W [.cells (bsv (c.plain.map (· ^^^ y)))]) := fun V W => D3_ok V W (by simp [obOk, idOks_bsv])
  have hxk : ∀ st, ev st (.bin .xor) [.int .i64 c.key, .int .i64 key] = some (.int .i64 (xorK c.key key), [], st) := fun _ => bin_xor
  obtain ⟨a, e, zs', hz', r1, r2⟩ : ∃ a e zs', zs'.length ≤ i + 1 ∧ sealF V c.key c.ad c.plain c.num = ((a, e), genV sdC zs') ∧ sealF W (xorK c.key key) (c.ad ++ [120]) (c.plain.map (· ^^^ y)) c.num = ((a, e), genV (gC key y) zs') := by
    rcases bkt_len c.plain with hb | hb
    · exact ⟨0, 5, zs, by omega, by rw [hV]; exact seal_no hb, by rw [hW]; exact seal_no (by rw [List.length_map]; exact hb)⟩
    · refine ⟨a0 zs c.num, 0, mput (a0 zs c.num) c zs, by have := mput_len' (k := a0 zs c.num) (x := c) (l := zs); omega, ?_, ?_⟩
      · rw [hV]; exact seal_gen (d := sdC) (c := c) (by omega) hb
      · rw [hW]; exact seal_gen (d := gC key y) (c := c) (by omega) (by show 0 ≤ bucketF ((c.plain.map (· ^^^ y)).length : Nat); rw [List.length_map]; exact hb)
  have hlv : V.s.length < 4294967296 := by rw [hV]; simp [genV]; omega
  have hlw : W.s.length < 4294967296 := by rw [hW]; simp [genV]; omega
  obtain ⟨n, hn⟩ : ∃ n, szF (genV sdC zs') a = n := ⟨_, rfl⟩
  have hn2 : szF (genV (gC key y) zs') a = n := by rw [← hn]; exact (sz_gen (fun c => by simp [sdC, gC]) zs' a).symm
  have c1 : (a != a) = false := by simp
  have c2 : (e != e) = false := by simp
  have c3 : (n != n) = false := by simp
  simp (maxSteps := 2000000) (disch := first | omega | (simp only [List.length_append, List.length_cons, List.length_nil, List.length_map] <;> omega)) only [hdk, e1, e2, e3, e4, ev_fldE, lpK_e, Int.toNat_natCast, ro_slo, ev_lenO, exc_int, exc_str, exc_ptr, swp_seq, swp_reg, swp_exit, swp_cond, seqK_n, seqK_e, blkK_e, condK_f, evK_some, appK_eq, srun_nil, srun_cons, stepK_call, sk_mv, sk_bin, sk_fld, sk_idxA, sk_load, sk_lenL, get_mk, raw_slot, put_some, wb_nil, ev_mv, bin_lss, ev_loadE, idxA_ro, ro_int, ro_str, ro_ptr, ro_ro, got_int, got_str, got_ptr, pubs, pubsFrom, List.map_cons, List.map_nil, List.getD_cons_zero, List.getD_cons_succ, List.set_cons_zero, List.set_cons_succ, List.replicate_succ, List.replicate_zero, List.cons_append, List.nil_append, Bool.false_eq_true, Option.map_some, ↓reduceIte]
  refine callK_intro (.inl (d13v (hok _ _) hlv r1)) ?_
  simp (maxSteps := 2000000) (disch := first | omega | (simp only [List.length_append, List.length_cons, List.length_nil, List.length_map] <;> omega)) only [seqK_n, evK_some, appK_eq, appC_eq, srun_nil, srun_cons, sk_mv, get_mk, raw_slot, put_some, wb_nil, ev_mv, ro_tup, ro2_int, List.map_cons, List.map_nil, List.getD_cons_zero, List.getD_cons_succ, List.set_cons_zero, List.set_cons_succ]
  apply swp_to
  · repeat' first | exact swp_ttI | refine swp_bothI ?_ ?_ | exact ⟨rfl, rfl⟩ | exact rfl | simp (maxSteps := 2000000) (disch := first | omega | (simp only [List.length_append, List.length_cons, List.length_nil, List.length_map] <;> omega)) only [flg_int, swp_reg, evK_some, appK_eq, srun_nil, srun_cons, sk_give, sk_ext, get_mk, raw_slot, put_some, wb_nil, ev_give, ev_ext, ro_int, List.map_cons, List.map_nil, List.getD_cons_zero, List.getD_cons_succ, List.set_cons_zero, List.set_cons_succ, List.getElem?_cons_zero, List.getElem?_cons_succ, true_and, Bool.false_eq_true, Option.map_some, ↓reduceIte]
  simp (maxSteps := 2000000) (disch := first | omega | (simp only [List.length_append, List.length_cons, List.length_nil, List.length_map] <;> omega)) only [hxk, hb2, e1, e2, e3, bin_addS, ev_fldE, Int.toNat_natCast, ro_slo, exc_int, exc_str, exc_ptr, swp_seq, swp_reg, seqK_n, evK_some, appK_eq, srun_cons, stepK_call, sk_mv, sk_bin, sk_b2s, sk_fld, sk_idxA, sk_load, get_mk, raw_slot, raw_lit, put_some, wb_nil, ev_mv, ev_loadE, idxA_ro, ro_int, ro_str, ro_ptr, ro_ro, got_int, got_str, got_ptr, pubs, pubsFrom, List.map_cons, List.map_nil, List.getD_cons_zero, List.getD_cons_succ, List.set_cons_zero, List.set_cons_succ, Bool.false_eq_true, Option.map_some, ↓reduceIte]
  refine callK_intro (.inl (d13w (hok _ _) hlw r2)) ?_
  simp (maxSteps := 2000000) (disch := first | omega | (simp only [List.length_append, List.length_cons, List.length_nil, List.length_map] <;> omega)) only [seqK_n, evK_some, appK_eq, appC_eq, srun_nil, srun_cons, sk_mv, get_mk, raw_slot, put_some, wb_nil, ev_mv, ro_tup, ro2_int, List.map_cons, List.map_nil, List.getD_cons_zero, List.getD_cons_succ, List.set_cons_zero, List.set_cons_succ]
  apply swp_to
  · repeat' first | exact swp_ttI | refine swp_bothI ?_ ?_ | exact ⟨rfl, rfl⟩ | exact rfl | simp (maxSteps := 2000000) (disch := first | omega | (simp only [List.length_append, List.length_cons, List.length_nil, List.length_map] <;> omega)) only [flg_int, swp_reg, evK_some, appK_eq, srun_nil, srun_cons, sk_give, sk_ext, get_mk, raw_slot, put_some, wb_nil, ev_give, ev_ext, ro_int, List.map_cons, List.map_nil, List.getD_cons_zero, List.getD_cons_succ, List.set_cons_zero, List.set_cons_succ, List.getElem?_cons_zero, List.getElem?_cons_succ, true_and, Bool.false_eq_true, Option.map_some, ↓reduceIte]
  simp (maxSteps := 2000000) (disch := first | omega | (simp only [List.length_append, List.length_cons, List.length_nil, List.length_map] <;> omega)) only [c1, c2, grd_t, ev_pick, exc_int, exc_ptr, swp_seq, swp_reg, seqK_n, evK_some, appK_eq, grd_t, srun_cons, stepK_call, stepK_grd, sk_mv, sk_take, sk_pick, sk_bin, get_mk, raw_slot, raw_lit, put_some, wb_nil, ev_mv, ev_take, ev_pick, bin_neq, ro_int, ro_bool, got_int, got_ptr, pubs, pubsFrom, List.map_cons, List.map_nil, List.getD_cons_zero, List.getD_cons_succ, List.set_cons_zero, List.set_cons_succ, Bool.false_eq_true, ↓reduceIte]
  refine callK_intro (.inl (d19v (hok _ _) hn)) ?_
  simp (maxSteps := 2000000) (disch := first | omega | (simp only [List.length_append, List.length_cons, List.length_nil, List.length_map] <;> omega)) only [exc_int, exc_ptr, evK_some, appK_eq, appC_eq, grd_t, srun_cons, stepK_call, stepK_grd, sk_take, get_mk, raw_slot, put_some, wb_nil, ev_take, got_int, got_ptr, pubs, pubsFrom, List.map_cons, List.map_nil, List.getD_cons_zero, List.getD_cons_succ, List.set_cons_zero, List.set_cons_succ, Bool.false_eq_true, ↓reduceIte]
  refine callK_intro (.inl (d19w (hok _ _) hn2)) ?_
  simp (maxSteps := 2000000) (disch := first | omega | (simp only [List.length_append, List.length_cons, List.length_nil, List.length_map] <;> omega)) only [c3, grd_t, ev_pick, lpK_n, flg_int, swp_reg, swp_skip, swp_cond, seqK_n, blkK_n, condK_f, evK_some, appK_eq, appC_eq, grd_t, srun_nil, srun_cons, stepK_grd, sk_mv, sk_give, sk_pick, sk_bin, get_mk, raw_slot, raw_lit, put_some, wb_nil, ev_mv, ev_give, ev_pick, bin_add, bin_neq, ro_int, ro_bool, List.map_cons, List.map_nil, List.getD_cons_zero, List.getD_cons_succ, List.set_cons_zero, List.set_cons_succ, Bool.false_eq_true, ↓reduceIte, wrap_i64]
  refine ⟨_, Forget.cut ?_ (by exact Nat.le_refl 8) rfl ?_ ?_, ⟨i + 1, zs', by omega, hz', rfl⟩, ?_⟩
  · repeat first | exact fg_e | refine fg_d ?_ | refine fg_k rfl ?_
  · change idOks 8 _ = true
    simp [idOks, idOk, idOks_fC]
  · exact D3_ok _ _ rfl
  · show ((l.length : Int) - ((i + 1 : Nat) : Int)).toNat < ((l.length : Int) - (i : Int)).toNat
    omega
end Go.Sh.F
