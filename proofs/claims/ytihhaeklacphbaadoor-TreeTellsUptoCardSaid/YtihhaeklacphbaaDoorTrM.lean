/-
  Small facts about the shadow machine.
  Trees: rows of files, comparing, the place of a path, predicates over a tree; in the shadow machine.
  Trees: the program's predicates over a tree, the place of a path, Right, Find, Get; in the shadow machine.
  Trees: predicates over a tree, Right, Find, Get; in the shadow machine.
  Trees: Right, Find, Get; in the shadow machine.
  Trees: Same, Size, In, Clone; in the shadow machine.
  Trees: Clone, Size, Few, the document's find and Right; in the shadow machine.
  Trees: Few, the document's find, Right, Find, Get; in the shadow machine.
  Trees: the document's Right, Find, Get; in the shadow machine.
-/
import Derived.Test.YtihhaeklacphbaaDoorGpM
import Derived.Test.YtihhaeklacphbaaDoorShRd
import Derived.Test.YtihhaeklacphbaaDoorShTree
set_option linter.unusedSimpArgs false
set_option linter.unusedVariables false
namespace Go.Sh.F
open Go.Proofs
theorem sk_mfnS {O : Orc} {s : S} {a0 a1 a2 : Nat} {d : Option Nat} {a : List Arg} {K : S → Prop} : stepK O ⟨d, .mfn a0 a1 a2, a, none⟩ K s = evK (ev s.st (.mfn a0 a1 a2) (a.map (Arg.raw s))) (appK K s ⟨d, .mfn a0 a1 a2, a, none⟩) := sk_mfn
theorem ev_mfn01 {st : List Ob} {f : FuncId} {v : SV} : ev st (.mfn f 0 1) [v] = some (.fn f [] [ro v], [], st) := rfl
theorem Forget.cutA {k : Nat} {xs bs : List SV} {st l x : List Ob} (h : fg xs bs) (hk : k ≤ st.length + l.length) (hi : idOks (st.length + l.length) bs = true) (ho : okSt (st ++ l)) : Forget k ⟨xs, st ++ (l ++ x)⟩ ⟨bs, st ++ l⟩ := by
  rw [← List.length_append] at hk hi
  refine Forget.cut h hk ?_ hi ho
  rw [← List.append_assoc, List.take_left]
theorem bf (b : Bool) : b = false ∨ b = true := by cases b <;> simp
theorem bt (b : Bool) : b = true ∨ b = false := by cases b <;> simp
theorem nbI (a b : Int) : (a != b) = !(a == b) := rfl
theorem cv_agg {l : List SV} : cellsV (.agg l) = l := rfl
theorem cv_int {k : IntKind} {x : Int} : cellsV (.int k x) = [.int k x] := rfl
theorem cv_str {x : List UInt8} : cellsV (.str x) = [.str x] := rfl
theorem cv_bool {x : Bool} : cellsV (.bool x) = [.bool x] := rfl
theorem cv_fn {f : _} {a : _} {l : _} : cellsV (.fn f a l) = [.fn f a l] := rfl
theorem cv_nilS : cellsV .nilS = [.nilS] := rfl
theorem cv_nilF : cellsV .nilF = [.nilF] := rfl
theorem cv_nilP : cellsV .nilP = [.nilP] := rfl
theorem cv_ptr {a b : Nat} : cellsV (.ptr a b) = [.ptr a b] := rfl
theorem cv_sl {a : List SV} {b : Nat} {c : Fl} : cellsV (.sl a b c) = [.sl a b c] := rfl
theorem cv_slo {a b c : Nat} : cellsV (.slo a b c) = [.slo a b c] := rfl
theorem cell_fn {f : _} {a : _} {l : _} : isCell (.fn f a l) = true := rfl
theorem cell_str {x : List UInt8} : isCell (.str x) = true := rfl
theorem cell_int {k : IntKind} {x : Int} : isCell (.int k x) = true := rfl
theorem cell_bool {x : Bool} : isCell (.bool x) = true := rfl
theorem cell_nilS : isCell .nilS = true := rfl
theorem eq_pair {st : List Ob} {n : Bool} {k : IntKind} {a b c d : Int} : ev st (.eqA n [.i, .i]) [.agg [.int k a, .int k b], .agg [.int k c, .int k d]] = some (.bool (if n then !(a == c && b == d) else a == c && b == d), [], st) := by
  rw [ev_eqA, eqKs_i, eqKs_i, eqKs_nil]
  cases h1 : (a == c) <;> cases h2 : (b == d) <;> cases n <;> rfl
theorem eq_four {st : List Ob} {n : Bool} {k : IntKind} {a b c d a' b' c' d' : Int} : ev st (.eqA n [.i, .i, .i, .i]) [.agg [.int k a, .int k b, .int k c, .int k d], .agg [.int k a', .int k b', .int k c', .int k d']] = some (.bool (if n then !(a == a' && b == b' && c == c' && d == d') else (a == a' && b == b' && c == c' && d == d')), [], st) := by
  rw [ev_eqA, eqKs_i, eqKs_i, eqKs_i, eqKs_i, eqKs_nil]
  cases h1 : (a == a') <;> cases h2 : (b == b') <;> cases h3 : (c == c') <;> cases h4 : (d == d') <;> cases n <;> rfl
theorem set_end' {α : Type} {X : List α} {a b : α} : (X ++ [a]).set X.length b = X ++ [b] := by simp
theorem get_end' {α : Type} {X : List α} {a : α} : (X ++ [a])[X.length]? = some a := by simp
theorem list_nil_or {α : Type} (l : List α) : l = [] ∨ l ≠ [] := by cases l <;> simp
end Go.Sh.F
namespace Go.Sh.F
open Go.PathLaw Go.TreeLaw Go.Proofs
def fC (f : F) : List SV := [.str f.1, .str f.2]
theorem fC_len (l : List F) : ∀ z ∈ l, (fC z).length = 2 := fun _ _ => rfl
def smT (t : List F) : Prop := t.length ≤ 268435456 ∧ ∀ f ∈ t, sm f.1 ∧ sm f.2
def RowF (st : List Ob) (v : SV) (t : List F) : Prop := RowAt st v 2 t.length (t.flatMap fC)
theorem RowF.mono {st : List Ob} {v : SV} {t : List F} (h : RowF st v t) (x : List Ob) : RowF (st ++ x) v t := RowAt.mono h x
theorem RowF.f0 {st : List Ob} {v : SV} {t : List F} (h : RowF st v t) {i : Nat} (hi : i < t.length) (x : List Ob) : ev (st ++ x) (.load 1 false) [adr v (i * 2)] = some (.str t[i].1, [], st ++ x) := by
  have := flat_get (fC_len t) (j := 0) (List.getElem?_eq_getElem hi) (by omega)
  rw [Nat.add_zero] at this
  rw [RowAt.ld1 h this x]; rfl
theorem RowF.f1 {st : List Ob} {v : SV} {t : List F} (h : RowF st v t) {i : Nat} (hi : i < t.length) (x : List Ob) : ev (st ++ x) (.load 1 false) [adr v (i * 2 + 1)] = some (.str t[i].2, [], st ++ x) := by
  have := flat_get (fC_len t) (j := 1) (List.getElem?_eq_getElem hi) (by omega)
  rw [RowAt.ld1 h this x]; rfl
theorem RowF.ld {st : List Ob} {v : SV} {t : List F} (h : RowF st v t) {i : Nat} (hi : i < t.length) (x : List Ob) : ev (st ++ x) (.load 2 true) [adr v (i * 2)] = some (.agg (fC t[i]), [], st ++ x) := by
  rw [RowAt.ldN h (by omega) (by omega) x, flat_part (fC_len t) (List.getElem?_eq_getElem hi)]; rfl
theorem RowF.ld' {st : List Ob} {v : SV} {t : List F} (h : RowF st v t) {i : Nat} (hi : i < t.length) : ev st (.load 2 true) [adr v (i * 2)] = some (.agg (fC t[i]), [], st) := by
  have := h.ld hi []
  rwa [List.append_nil] at this
theorem idOks_fC (k : Nat) (t : List F) : idOks k (t.flatMap fC) = true := by
  induction t with
  | nil => rfl
  | cons f t ih => rw [List.flatMap_cons, idOks_app, ih]; rfl
theorem RowF.idOk {st : List Ob} {v : SV} {t : List F} (h : RowF st v t) : idOk st.length v = true := RowAt.idOk h (idOks_fC _ _)
theorem ro1_fC (t : List F) : (t.flatMap fC).map ro1 = t.flatMap fC := by
  induction t with
  | nil => rfl
  | cons f t ih => rw [List.flatMap_cons, List.map_append, ih]; rfl
theorem cell_fC (t : List F) : (t.flatMap fC).all isCell = true := by
  induction t with
  | nil => rfl
  | cons f t ih => rw [List.flatMap_cons, List.all_append, ih]; rfl
/-- strings.Compare. -/
def KCmp : List SV → SV → Prop := fun args r => ∃ a b : List UInt8, args = [.str a, .str b] ∧ r = .int .i64 (Lib.compareBytes a b)
theorem rCmp {P : Program} {ρ : Go.Shelf.Ren} (L : Lays.n106 P ρ) {f : FuncId} (hf : f = ρ.f 106) (hp : plainB P f = true) (args : List SV) (st : List Ob) (r : SV) (st' : List Ob) (h : FnC KCmp args st r st') : RealC P f args st r st' := by
  obtain ⟨rfl, a, b, rfl, rfl⟩ := h
  subst hf
  refine real_of hp fun g w vs hI hv => ?_
  obtain ⟨hl, hV⟩ := hv
  obtain ⟨v, u, rfl⟩ : ∃ v u, vs = [v, u] := two_of hl
  have h0 := hV 0 (by simp) (by simp)
  have h1 := hV 1 (by simp) (by simp)
  simp only [List.getElem_cons_zero, List.getElem_cons_succ] at h0 h1
  rw [str_val h0, str_val h1]
  refine (Any.strings_Compare L ⟨a.toArray⟩ ⟨b.toArray⟩ w).mono ?_
  rintro e w' ⟨rfl, rfl⟩
  exact ⟨_, g, rfl, .refl _ _, fun _ _ => rfl, rfl, rfl, .int _ _ _⟩
theorem cmp_facts : ∀ a b : List UInt8, (Lib.compareBytes a b < 0 ↔ a < b) ∧ (Lib.compareBytes a b = 0 ↔ a = b)
  | [], [] => by simp [Lib.compareBytes]
  | [], y :: b => by simp [Lib.compareBytes]
  | x :: a, [] => by simp [Lib.compareBytes]
  | x :: a, y :: b => by
    obtain ⟨h1, h2⟩ := cmp_facts a b
    unfold Lib.compareBytes
    rw [List.cons_lt_cons_iff]
    by_cases h : x < y
    · rw [if_pos h]
      refine ⟨⟨fun _ => .inl h, fun _ => (by decide)⟩, ⟨fun h => absurd h (by decide), fun e => ?_⟩⟩
      cases e
      exact absurd h (UInt8.lt_irrefl x)
    · rw [if_neg h]
      by_cases h' : y < x
      · rw [if_pos h']
        refine ⟨⟨fun h => absurd h (by decide), fun e => ?_⟩, ⟨fun h => absurd h (by decide), fun e => ?_⟩⟩
        · rcases e with e | ⟨rfl, _⟩
          · exact absurd e h
          · exact absurd h' (UInt8.lt_irrefl _)
        · cases e
          exact absurd h' (UInt8.lt_irrefl x)
      · rw [if_neg h']
        have e : x = y := UInt8.le_antisymm (UInt8.not_lt.1 h') (UInt8.not_lt.1 h)
        subst e
        rw [h1, h2]
        simp [UInt8.lt_irrefl]
theorem cmp_lt (a b : List UInt8) : decide (Lib.compareBytes a b < 0) = lt a b := by
  rw [Bool.eq_iff_iff, decide_eq_true_eq, lt_iff]; exact (cmp_facts a b).1
theorem cmp_eq (a b : List UInt8) : (Lib.compareBytes a b == 0) = (a == b) := by
  rw [Bool.eq_iff_iff, beq_iff_eq, beq_iff_eq]; exact (cmp_facts a b).2
def O300 : Orc := O22.add 50 (FnC KCmp)
theorem s300 : Sound Tryd.prog O300 := s22.addR (rCmp Tryd.lays106 rfl (by kernel_rfl))
theorem t49 (f : F) (p : List UInt8) (st : List Ob) (ho : okSt st) : swpF O300 sf49 [.agg (fC f), .str p] st (fun r st' => r = .int .i64 (Lib.compareBytes f.1 p) ∧ st' = st) := by
  have k := fun s => (show O300 50 [.str f.1, .str p] s (.int .i64 (Lib.compareBytes f.1 p)) s from .inr ⟨rfl, rfl, f.1, p, rfl, rfl⟩)
  simp (maxSteps := 2000000) (disch := first | omega | (simp only [List.length_append, List.length_cons, List.length_nil, List.length_map] <;> omega)) only [sf49, fC, cv_agg, cell_str, getA0, Nat.add_zero, List.set_cons_zero, List.set_cons_succ, flg_int, exc_str, exc_agg, swp_seq, swp_reg, seqK_n, evK_some, appK_eq, srun_nil, srun_cons, stepK_call, swpF_eq, sk_mv, sk_give, sk_fld, sk_load, sk_box, get_mk, raw_slot, raw_lit, put_some, wb_nil, ev_mv, ev_give, ev_fld, ev_box, ev_ldP, ldP_some, ro_int, ro_str, ro1_str, got_str, got_agg, pubs, pubsFrom, List.map_cons, List.map_nil, List.getD_cons_zero, List.getD_cons_succ, List.set_cons_zero, List.set_cons_succ, List.getElem?_cons_zero, List.length_cons, List.length_nil, List.replicate_succ, List.replicate_zero, List.cons_append, List.nil_append, Nat.reduceAdd, Nat.reduceSub, Bool.false_eq_true, Option.map_some, ↓reduceIte, List.all_cons, List.all_nil, Bool.and_self, Nat.zero_add]
  refine callK_intro (k _) ?_
  simp (maxSteps := 2000000) (disch := first | omega | (simp only [List.length_append, List.length_cons, List.length_nil, List.length_map] <;> omega)) only [List.set_cons_zero, List.set_cons_succ, flg_int, swp_ret, seqK_n, evK_some, appK_eq, appC_eq, srun_nil, srun_cons, fin_ret, sk_give, get_mk, raw_slot, put_some, wb_nil, ev_give, ro_int, List.map_cons, List.map_nil, List.getD_cons_zero, List.getD_cons_succ, List.set_cons_zero, List.set_cons_succ, true_and, Bool.false_eq_true, ↓reduceIte]
  first | exact ⟨_, trim1 ho rfl⟩ | exact ⟨_, trim1 ho rfl, rfl⟩ | exact ⟨_, trim1 ho rfl, rfl, rfl⟩ | exact ⟨_, trim1 ho rfl, by simp, rfl⟩ | exact ⟨_, trim1 ho rfl, by simp⟩
def O301 : Orc := O300.add 49 (StC fun st args r => okSt st ∧ ∃ (f : F) (p : List UInt8), args = [.agg (fC f), .str p] ∧ r = .int .i64 (Lib.compareBytes f.1 p))
theorem s301 : Sound Tryd.prog O301 := s300.addS c49 (by kernel_rfl) (by
  rintro args r st ⟨ho, f, p, rfl, rfl⟩
  exact ⟨by simp [sf49], t49 f p st ho⟩)
/-- The binary search. -/
def bsF (t : List F) (p : List UInt8) : Nat → Nat → Nat → Nat
  | 0, i, _ => i
  | n + 1, i, j => if i < j then (if lt (t.getD ((i + j) / 2) ([], [])).1 p = true then bsF t p n ((i + j) / 2 + 1) j else bsF t p n i ((i + j) / 2)) else i
theorem bs_fuel (t : List F) (p : List UInt8) : ∀ (n m i j : Nat), j - i ≤ n → j - i ≤ m → bsF t p n i j = bsF t p m i j
  | 0, 0, i, j, _, _ => rfl
  | 0, m + 1, i, j, h, _ => by unfold bsF; rw [if_neg (by omega)]
  | n + 1, 0, i, j, _, h => by unfold bsF; rw [if_neg (by omega)]
  | n + 1, m + 1, i, j, h, h' => by
    unfold bsF
    by_cases hij : i < j
    · rw [if_pos hij, if_pos hij, bs_fuel t p n m ((i + j) / 2 + 1) j (by omega) (by omega), bs_fuel t p n m i ((i + j) / 2) (by omega) (by omega)]
    · rw [if_neg hij, if_neg hij]
def binF (t : List F) (p : List UInt8) : Nat := bsF t p t.length 0 t.length
theorem bs_step (t : List F) (p : List UInt8) {i j : Nat} (h : i < j) : bsF t p (j - i) i j = if lt (t.getD ((i + j) / 2) ([], [])).1 p = true then bsF t p (j - ((i + j) / 2 + 1)) ((i + j) / 2 + 1) j else bsF t p ((i + j) / 2 - i) i ((i + j) / 2) := by
  obtain ⟨n, hn⟩ : ∃ n, j - i = n + 1 := ⟨j - i - 1, by omega⟩
  rw [hn]
  conv => lhs; unfold bsF
  rw [if_pos h, bs_fuel t p n (j - ((i + j) / 2 + 1)) _ j (by omega) (by omega), bs_fuel t p n ((i + j) / 2 - i) i _ (by omega) (by omega)]
theorem bs_le (t : List F) (p : List UInt8) : ∀ (n i j : Nat), i ≤ j → bsF t p n i j ≤ j
  | 0, i, j, h => h
  | n + 1, i, j, h => by
    unfold bsF
    split
    · split
      · exact bs_le t p n _ j (by omega)
      · exact Nat.le_trans (bs_le t p n i _ (by omega)) (by omega)
    · exact h
theorem bs_low {t : List F} {p : List UInt8} (hs : Srt t) : ∀ (n i j : Nat), j - i ≤ n → i ≤ lowP p t → lowP p t ≤ j → j ≤ t.length → bsF t p n i j = lowP p t
  | 0, i, j, h, h1, h2, h3 => by unfold bsF; omega
  | n + 1, i, j, h, h1, h2, h3 => by
    unfold bsF
    by_cases hij : i < j
    · rw [if_pos hij]
      have hh : (i + j) / 2 < t.length := by omega
      have hg : t.getD ((i + j) / 2) ([], []) = t[(i + j) / 2] := by rw [List.getD_eq_getElem?_getD, List.getElem?_eq_getElem hh]; rfl
      rw [hg]
      by_cases hl : lt (t[(i + j) / 2]).1 p = true
      · rw [if_pos hl]
        refine bs_low hs n _ j (by omega) ?_ h2 h3
        by_cases hlow : (i + j) / 2 < lowP p t
        · omega
        · rw [low_ge p t hs _ hh (by omega)] at hl; cases hl
      · rw [if_neg hl]
        refine bs_low hs n i _ (by omega) h1 ?_ (by omega)
        by_cases hlow : (i + j) / 2 < lowP p t
        · exact absurd (low_lt p t _ hh hlow) hl
        · omega
    · rw [if_neg hij]; omega
theorem bin_low {t : List F} {p : List UInt8} (hs : Srt t) : binF t p = lowP p t := bs_low hs _ _ _ (Nat.le_refl _) (Nat.zero_le _) (low_le p t) (Nat.le_refl _)
theorem bin_le (t : List F) (p : List UInt8) : binF t p ≤ t.length := bs_le t p _ _ _ (Nat.zero_le _)
def isB (t : List F) (p : List UInt8) : Bool := decide (binF t p < t.length) && ((t.getD (binF t p) ([], [])).1 == p)
theorem isB_has {t : List F} {p : List UInt8} (hs : Srt t) : isB t p = has t p := by
  rw [Bool.eq_iff_iff, low_has hs]
  unfold isB
  rw [bin_low hs, Bool.and_eq_true, decide_eq_true_eq, beq_iff_eq]
  constructor
  · rintro ⟨h1, h2⟩
    refine ⟨h1, ?_⟩
    rw [List.getD_eq_getElem?_getD, List.getElem?_eq_getElem h1] at h2
    exact h2
  · rintro ⟨h1, h2⟩
    refine ⟨h1, ?_⟩
    rw [List.getD_eq_getElem?_getD, List.getElem?_eq_getElem h1]
    exact h2
theorem getD_at {t : List F} {i : Nat} (h : i < t.length) : t.getD i ([], []) = t[i] := by rw [List.getD_eq_getElem?_getD, List.getElem?_eq_getElem h]; rfl
theorem shr1 {n : Nat} (h : n ≤ 1099511627776) {s : List Ob} : ev s (.bin .shr) [.int .u64 (n : Int), .int .u64 1] = some (.int .u64 ((n / 2 : Nat) : Int), [], s) := by
  rw [bin_shr (by omega)]
  have e : (Int.fdiv (n : Int) (2 ^ (Min.min (Int.toNat 1) IntKind.u64.bits))) = ((n / 2 : Nat) : Int) := by
    show Int.fdiv (n : Int) 2 = _
    rw [Int.fdiv_eq_ediv_of_nonneg _ (by omega)]
    omega
  rw [e]
theorem wrap_u {n : Nat} (h : n ≤ 1099511627776) : IntKind.u64.wrap (n : Int) = (n : Int) := by
  unfold IntKind.wrap
  simp only [IntKind.bits, IntKind.signed]
  first | omega | (simp; omega)
end Go.Sh.F
namespace Go.Sh.F
open Go.PathLaw Go.TreeLaw Go.Proofs
theorem fin_ltT {n i : Nat} (h : i < n) : ((n : Int) - ((i + 1 : Nat) : Int)).toNat < ((n : Int) - (i : Int)).toNat := by omega
theorem t49r {f : F} {p : List UInt8} {st : List Ob} (ho : okSt st) : O301 49 [.agg (fC f), .str p] st (.int .i64 (Lib.compareBytes f.1 p)) st := .inr ⟨rfl, rfl, ho, f, p, rfl, rfl⟩
set_option maxHeartbeats 4000000 in
theorem t48 (v : SV) (t : List F) (p : List UInt8) (st : List Ob) (hv : RowF st v t) (hl : t.length ≤ 268435456) (ho : okSt st) : swpF O301 sf48 [v, .str p, .fn 49 [] []] st (fun r st' => r = .tup [.int .i64 (binF t p), .bool (isB t p)] ∧ st' = st) := by
  have ib := fun i (hi : i < t.length) => RowAt.idxB hv hi .i64
  have ld := fun i (hi : i < t.length) => RowF.ld' hv hi
  obtain ⟨q1, q2, q3, q4, q6, q7⟩ := RowAt.facts hv
  have q5 := RowAt.lenL hv
  have k49 := fun (f : F) => t49r (f := f) (p := p) ho
  have hbl := bin_le t p
  simp (maxSteps := 2000000) (disch := first | omega | (simp only [List.length_append, List.length_cons, List.length_nil, List.length_map] <;> omega)) only [sf48, q1, q5, List.set_cons_zero, List.set_cons_succ, flg_bool, flg_int, exc_int, swp_seq, swp_reg, swp_block, seqK_n, evK_some, appK_eq, srun_nil, srun_cons, swpF_eq, sk_mv, sk_take, sk_give, sk_lenL, get_mk, raw_slot, raw_lit, put_some, wb_nil, ev_mv, ev_take, ev_give, ro_int, ro_bool, got_int, List.map_cons, List.map_nil, List.getD_cons_zero, List.getD_cons_succ, List.set_cons_zero, List.set_cons_succ, List.length_cons, List.length_nil, List.replicate_succ, List.replicate_zero, List.cons_append, List.nil_append, Nat.reduceAdd, Nat.reduceSub, Bool.false_eq_true, ↓reduceIte, Nat.zero_add]
  refine swp_lp (fun S => ∃ (i j : Nat), i ≤ j ∧ j ≤ t.length ∧ bsF t p (j - i) i j = binF t p ∧ S = ⟨[v, .str p, .fn 49 [] [], .undef, .undef, .undef, .undef, .undef, .int .i64 t.length, .int .i64 i, .int .i64 j] ++ List.replicate 38 .undef, st⟩)
    (fun S => match S.get 9, S.get 10 with | .int _ a, .int _ b => (b - a).toNat | _, _ => 0)
    ⟨[v, .str p, .fn 49 [] [], .undef, .undef, .undef, .undef, .undef, .int .i64 t.length, .int .i64 0, .int .i64 t.length] ++ List.replicate 38 .undef, st⟩ ?_ ⟨0, t.length, Nat.zero_le _, Nat.le_refl _, rfl, rfl⟩ ?_
  · refine Forget.of ?_
    repeat first | exact fg_e | refine fg_d ?_ | refine fg_k rfl ?_
  rintro S ⟨i, j, hij, hj, hb, rfl⟩
  by_cases hlt : i < j
  · have hd : decide ((i : Int) < (j : Int)) = true := by rw [decide_eq_true_eq]; omega
    have hh : (i + j) / 2 < t.length := by omega
    have e1 : IntKind.i64.wrap ((i : Int) + (j : Int)) = ((i + j : Nat) : Int) := by rw [wrap_i64 (by omega) (by omega)]; omega
    have e2 : IntKind.u64.wrap ((i + j : Nat) : Int) = ((i + j : Nat) : Int) := wrap_u (by omega)
    have e3 := fun s => shr1 (n := i + j) (s := s) (by omega)
    have e4 : IntKind.i64.wrap (((i + j) / 2 : Nat) : Int) = (((i + j) / 2 : Nat) : Int) := wrap_i64 (by omega) (by omega)
    have hs := bs_step t p hlt
    rw [hb, getD_at hh] at hs
    have b1 := ib _ hh
    have b2 := ld _ hh
    have kk := k49 t[(i + j) / 2]
    have hc := cmp_lt t[(i + j) / 2].1 p
    generalize hm : (i + j) / 2 = m at *
    generalize t[m] = f at *
    simp (maxSteps := 2000000) (disch := first | omega | (simp only [List.length_append, List.length_cons, List.length_nil, List.length_map] <;> omega)) only [hd, e1, e2, e3, e4, b1, b2, q1, List.set_cons_zero, List.set_cons_succ, stepK_callv, callvK_fn, flg_int, exc_str, exc_agg, exc_fn, sk_idxB, swp_seq, swp_reg, swp_skip, swp_block, swp_cond, seqK_n, condK_t, evK_some, appK_eq, srun_nil, srun_cons, sk_mv, sk_give, sk_bin, sk_cvI, sk_load, get_mk, raw_slot, raw_lit, put_some, wb_nil, ev_mv, ev_give, ev_cvI, bin_add, bin_lss, ro_int, ro_str, ro_fn, got_str, got_agg, pubs, pubsFrom, List.map_cons, List.map_nil, List.getD_cons_zero, List.getD_cons_succ, List.set_cons_zero, List.set_cons_succ, List.replicate_succ, List.replicate_zero, List.cons_append, List.nil_append, Bool.false_eq_true, ↓reduceIte, List.append_nil, ev_cvI]
    refine callK_intro kk ?_
    cases hlf : lt f.1 p with
    | true =>
      rw [hlf] at hc hs
      rw [if_pos rfl] at hs
      have e5 : IntKind.i64.wrap ((m : Int) + 1) = ((m + 1 : Nat) : Int) := by rw [wrap_i64 (by omega) (by omega)]; omega
      simp (maxSteps := 2000000) (disch := first | omega | (simp only [List.length_append, List.length_cons, List.length_nil, List.length_map] <;> omega)) only [hc, e5, List.set_cons_zero, List.set_cons_succ, lpK_n, flg_int, swp_reg, swp_cond, seqK_n, blkK_n, condK_t, evK_some, appK_eq, appC_eq, srun_nil, srun_cons, sk_mv, sk_give, sk_bin, get_mk, raw_slot, raw_lit, put_some, wb_nil, ev_mv, ev_give, bin_add, bin_lss, ro_int, List.map_cons, List.map_nil, List.getD_cons_zero, List.getD_cons_succ, List.set_cons_zero, List.set_cons_succ, Bool.false_eq_true, ↓reduceIte]
      refine ⟨_, ?_, ⟨m + 1, j, by omega, hj, hs.symm, rfl⟩, by show ((j : Int) - ((m + 1 : Nat) : Int)).toNat < ((j : Int) - (i : Int)).toNat; omega⟩
      refine Forget.of ?_
      repeat first | exact fg_e | refine fg_d ?_ | refine fg_k rfl ?_
    | false =>
      rw [hlf] at hc hs
      rw [if_neg (by simp)] at hs
      simp (maxSteps := 2000000) (disch := first | omega | (simp only [List.length_append, List.length_cons, List.length_nil, List.length_map] <;> omega)) only [hc, List.set_cons_zero, List.set_cons_succ, lpK_n, exc_int, swp_reg, swp_cond, seqK_n, blkK_n, condK_f, evK_some, appK_eq, appC_eq, srun_nil, srun_cons, sk_mv, sk_take, sk_bin, get_mk, raw_slot, raw_lit, put_some, wb_nil, ev_mv, ev_take, bin_lss, ro_int, got_int, List.map_cons, List.map_nil, List.getD_cons_zero, List.getD_cons_succ, List.set_cons_zero, List.set_cons_succ, Bool.false_eq_true, ↓reduceIte]
      refine ⟨_, ?_, ⟨i, m, by omega, by omega, hs.symm, rfl⟩, by show ((m : Int) - (i : Int)).toNat < ((j : Int) - (i : Int)).toNat; omega⟩
      refine Forget.of ?_
      repeat first | exact fg_e | refine fg_d ?_ | refine fg_k rfl ?_
  · have hd : decide ((i : Int) < (j : Int)) = false := by rw [decide_eq_false_iff_not]; omega
    have hi : i = binF t p := by
      have e0 : j - i = 0 := by omega
      rw [e0] at hb
      exact hb
    by_cases hin : i < t.length
    · have hd2 : decide ((i : Int) < (t.length : Int)) = true := by rw [decide_eq_true_eq]; omega
      have b1 := ib _ hin
      have b2 := ld _ hin
      have kk := k49 t[i]
      have hc := cmp_eq t[i].1 p
      have hB : isB t p = (t[i].1 == p) := by
        unfold isB
        rw [← hi, decide_eq_true hin, getD_at hin, Bool.true_and]
      rw [hB, ← hi]
      simp (maxSteps := 2000000) (disch := first | omega | (simp only [List.length_append, List.length_cons, List.length_nil, List.length_map] <;> omega)) only [hd, hd2, b1, b2, q2, q3, List.set_cons_zero, List.set_cons_succ, lpK_e, stepK_callv, callvK_fn, exc_int, exc_str, exc_agg, exc_fn, sk_idxB, swp_seq, swp_reg, swp_exit, swp_cond, seqK_n, seqK_e, blkK_e, condK_f, evK_some, appK_eq, grd_t, srun_nil, srun_cons, stepK_grd, sk_mv, sk_take, sk_bin, sk_load, get_mk, raw_slot, put_some, wb_nil, ev_mv, ev_take, bin_lss, ro_int, ro_bool, got_int, got_str, got_fn, got_agg, pubs, pubsFrom, List.map_cons, List.map_nil, List.getD_cons_zero, List.getD_cons_succ, List.set_cons_zero, List.set_cons_succ, List.replicate_succ, List.replicate_zero, List.cons_append, List.nil_append, Bool.false_eq_true, ↓reduceIte, List.append_nil]
      refine callK_intro kk ?_
      simp (maxSteps := 2000000) (disch := first | omega | (simp only [List.length_append, List.length_cons, List.length_nil, List.length_map] <;> omega)) only [hc, List.set_cons_zero, List.set_cons_succ, flg_bool, flg_int, swp_ret, seqK_n, evK_some, appK_eq, appC_eq, grd_t, srun_nil, srun_cons, stepK_grd, fin_two, sk_give, sk_pick, sk_bin, get_mk, raw_slot, raw_lit, put_some, wb_nil, ev_give, ev_pick, bin_eql, ro_int, ro_bool, List.map_cons, List.map_nil, List.getD_cons_zero, List.getD_cons_succ, List.set_cons_zero, List.set_cons_succ, true_and, Bool.false_eq_true, ↓reduceIte]
      first | exact ⟨_, .same, rfl, rfl⟩ | exact ⟨_, .same, rfl⟩
    · have hd2 : decide ((i : Int) < (t.length : Int)) = false := by rw [decide_eq_false_iff_not]; omega
      have hB : isB t p = false := by
        unfold isB
        rw [← hi, decide_eq_false hin, Bool.false_and]
      rw [hB, ← hi]
      simp (maxSteps := 2000000) (disch := first | omega | (simp only [List.length_append, List.length_cons, List.length_nil, List.length_map] <;> omega)) only [hd, hd2, List.set_cons_zero, List.set_cons_succ, lpK_e, flg_bool, flg_int, swp_seq, swp_reg, swp_ret, swp_exit, swp_cond, seqK_n, seqK_e, blkK_e, condK_f, evK_some, appK_eq, grd_t, srun_nil, srun_cons, stepK_grd, fin_two, sk_mv, sk_give, sk_pick, sk_bin, get_mk, raw_slot, raw_lit, put_some, wb_nil, ev_mv, ev_give, ev_pick, bin_lss, ro_int, ro_bool, List.map_cons, List.map_nil, List.getD_cons_zero, List.getD_cons_succ, List.set_cons_zero, List.set_cons_succ, List.replicate_succ, List.replicate_zero, List.cons_append, List.nil_append, true_and, Bool.false_eq_true, ↓reduceIte]
      first | exact ⟨_, .same, rfl, rfl⟩ | exact ⟨_, .same, rfl⟩
def O302 : Orc := O301.add 48 (StC fun st args r => ∃ (v : SV) (t : List F) (p : List UInt8), RowF st v t ∧ t.length ≤ 268435456 ∧ okSt st ∧ args = [v, .str p, .fn 49 [] []] ∧ r = .tup [.int .i64 (binF t p), .bool (isB t p)])
theorem s302 : Sound Tryd.prog O302 := s301.addS c48 (by kernel_rfl) (by
  rintro args r st ⟨v, t, p, hv, hl, ho, rfl, rfl⟩
  exact ⟨by simp [sf48], t48 v t p st hv hl ho⟩)
theorem t34 (v : SV) (t : List F) (p : List UInt8) (st : List Ob) (hv : RowF st v t) (hl : t.length ≤ 268435456) (ho : okSt st) : swpF O302 sf34 [v, .str p] st (fun r st' => r = .tup [.int .i64 (binF t p), .bool (isB t p)] ∧ st' = st) := by
  obtain ⟨q1, q2, q3, q4, q6, q7⟩ := RowAt.facts hv
  have k : O302 48 [v, .str p, .fn 49 [] []] st (.tup [.int .i64 (binF t p), .bool (isB t p)]) st := .inr ⟨rfl, rfl, v, t, p, hv, hl, ho, rfl, rfl⟩
  simp (maxSteps := 2000000) (disch := first | omega | (simp only [List.length_append, List.length_cons, List.length_nil, List.length_map] <;> omega)) only [sf34, q1, q2, q3, List.set_cons_zero, List.set_cons_succ, flg_bool, flg_int, exc_str, exc_fn, swp_seq, swp_reg, seqK_n, evK_some, appK_eq, srun_nil, srun_cons, stepK_call, swpF_eq, sk_mv, sk_give, get_mk, raw_slot, raw_lit, put_some, wb_nil, ev_mv, ev_give, ro_int, ro_bool, ro_str, got_str, got_fn, pubs, pubsFrom, List.map_cons, List.map_nil, List.getD_cons_zero, List.getD_cons_succ, List.set_cons_zero, List.set_cons_succ, List.length_cons, List.length_nil, List.replicate_succ, List.replicate_zero, List.cons_append, List.nil_append, Nat.reduceAdd, Nat.reduceSub, Bool.false_eq_true, ↓reduceIte, Nat.zero_add]
  refine callK_intro k ?_
  simp (maxSteps := 2000000) (disch := first | omega | (simp only [List.length_append, List.length_cons, List.length_nil, List.length_map] <;> omega)) only [List.set_cons_zero, List.set_cons_succ, flg_bool, flg_int, swp_ret, seqK_n, evK_some, appK_eq, appC_eq, srun_nil, srun_cons, fin_two, sk_give, sk_ext, get_mk, raw_slot, put_some, wb_nil, ev_give, ev_ext, ro_int, ro_bool, List.map_cons, List.map_nil, List.getD_cons_zero, List.getD_cons_succ, List.set_cons_zero, List.set_cons_succ, List.getElem?_cons_zero, List.getElem?_cons_succ, true_and, Bool.false_eq_true, Option.map_some, ↓reduceIte]
  first | exact ⟨_, .same, rfl, rfl⟩ | exact ⟨_, .same, rfl⟩
def KPlace : List Ob → List SV → SV → Prop := fun st args r => ∃ (v : SV) (t : List F) (p : List UInt8), RowF st v t ∧ t.length ≤ 268435456 ∧ okSt st ∧ args = [v, .str p] ∧ r = .tup [.int .i64 (binF t p), .bool (isB t p)]
def O303 : Orc := O302.add 34 (StC KPlace)
theorem s303 : Sound Tryd.prog O303 := s302.addS c34 (by kernel_rfl) (by
  rintro args r st ⟨v, t, p, hv, hl, ho, rfl, rfl⟩
  exact ⟨by simp [sf34], t34 v t p st hv hl ho⟩)
theorem u30 {a b : List UInt8} (ha : sm a) (hb : sm b) {st : List Ob} : O303 30 [.str a, .str b] st (.bool (underB a b)) st := (by repeat first | exact Or.inr ⟨rfl, rfl, a, b, ha, hb, rfl, rfl⟩ | refine Or.inl ?_)
theorem u33 {a b : List UInt8} (ha : sm a) (hb : sm b) {st : List Ob} : O303 33 [.str a, .str b] st (.bool (clashB a b)) st := (by repeat first | exact Or.inr ⟨rfl, rfl, a, b, ha, hb, rfl, rfl⟩ | refine Or.inl ?_)
theorem t43 (f x : F) (id : Nat) (st : List Ob) (hg : st[id]? = some (.cells (fC f))) (hf : sm f.1) (hx : sm x.1) (ho : okSt st) : swpF O303 sf43 [.agg (fC x), .ptr id 0] st (fun r st' => r = .bool (underB f.1 x.1) ∧ st' = st) := by
  have hg2 : (st ++ [.cells (fC x)])[id]? = some (.cells (fC f)) := by rw [List.getElem?_append_left (List.getElem?_eq_some_iff.1 hg).1]; exact hg
  simp only [fC] at hg2
  simp (maxSteps := 2000000) (disch := first | omega | (simp only [List.length_append, List.length_cons, List.length_nil, List.length_map] <;> omega)) only [sf43, fC, hg2, cv_agg, cell_str, getA0, Nat.add_zero, List.set_cons_zero, List.set_cons_succ, flg_bool, exc_str, exc_agg, swp_seq, swp_reg, seqK_n, evK_some, appK_eq, srun_nil, srun_cons, stepK_call, swpF_eq, sk_give, sk_fld, sk_load, sk_box, get_mk, raw_slot, raw_lit, put_some, wb_nil, ev_give, ev_fld, ev_box, ev_ldP, ldP_some, ro_bool, ro_str, ro1_str, got_str, got_agg, pubs, pubsFrom, List.map_cons, List.map_nil, List.getD_cons_zero, List.getD_cons_succ, List.set_cons_zero, List.set_cons_succ, List.getElem?_cons_zero, List.length_cons, List.length_nil, List.replicate_succ, List.replicate_zero, List.cons_append, List.nil_append, Nat.reduceAdd, Nat.reduceSub, Bool.false_eq_true, Option.map_some, ↓reduceIte, List.all_cons, List.all_nil, Bool.and_self, Nat.zero_add]
  refine callK_intro (u30 hf hx) ?_
  simp (maxSteps := 2000000) (disch := first | omega | (simp only [List.length_append, List.length_cons, List.length_nil, List.length_map] <;> omega)) only [List.set_cons_zero, List.set_cons_succ, flg_bool, swp_ret, seqK_n, evK_some, appK_eq, appC_eq, srun_nil, srun_cons, fin_ret, sk_give, get_mk, raw_slot, put_some, wb_nil, ev_give, ro_bool, List.map_cons, List.map_nil, List.getD_cons_zero, List.getD_cons_succ, List.set_cons_zero, List.set_cons_succ, true_and, Bool.false_eq_true, ↓reduceIte]
  first | exact ⟨_, trim1 ho rfl⟩ | exact ⟨_, trim1 ho rfl, rfl⟩ | exact ⟨_, trim1 ho rfl, rfl, rfl⟩ | exact ⟨_, trim1 ho rfl, by simp, rfl⟩ | exact ⟨_, trim1 ho rfl, by simp⟩
theorem t32 (x : F) (p : List UInt8) (id : Nat) (st : List Ob) (hg : st[id]? = some (.cells [.str p])) (hp : sm p) (hx : sm x.1) (ho : okSt st) : swpF O303 sf32 [.agg (fC x), .ptr id 0] st (fun r st' => r = .bool (clashB x.1 p) ∧ st' = st) := by
  have hg2 : (st ++ [.cells (fC x)])[id]? = some (.cells [.str p]) := by rw [List.getElem?_append_left (List.getElem?_eq_some_iff.1 hg).1]; exact hg
  simp only [fC] at hg2
  simp (maxSteps := 2000000) (disch := first | omega | (simp only [List.length_append, List.length_cons, List.length_nil, List.length_map] <;> omega)) only [sf32, fC, hg2, cv_agg, cell_str, getA0, Nat.add_zero, List.set_cons_zero, List.set_cons_succ, flg_bool, exc_str, exc_agg, swp_seq, swp_reg, seqK_n, evK_some, appK_eq, srun_nil, srun_cons, stepK_call, swpF_eq, sk_give, sk_fld, sk_load, sk_box, get_mk, raw_slot, raw_lit, put_some, wb_nil, ev_give, ev_fld, ev_box, ev_ldP, ldP_some, ro_bool, ro_str, ro1_str, got_str, got_agg, pubs, pubsFrom, List.map_cons, List.map_nil, List.getD_cons_zero, List.getD_cons_succ, List.set_cons_zero, List.set_cons_succ, List.getElem?_cons_zero, List.length_cons, List.length_nil, List.replicate_succ, List.replicate_zero, List.cons_append, List.nil_append, Nat.reduceAdd, Nat.reduceSub, Bool.false_eq_true, Option.map_some, ↓reduceIte, List.all_cons, List.all_nil, Bool.and_self, Nat.zero_add]
  refine callK_intro (u33 hx hp) ?_
  simp (maxSteps := 2000000) (disch := first | omega | (simp only [List.length_append, List.length_cons, List.length_nil, List.length_map] <;> omega)) only [List.set_cons_zero, List.set_cons_succ, flg_bool, swp_ret, seqK_n, evK_some, appK_eq, appC_eq, srun_nil, srun_cons, fin_ret, sk_give, get_mk, raw_slot, put_some, wb_nil, ev_give, ro_bool, List.map_cons, List.map_nil, List.getD_cons_zero, List.getD_cons_succ, List.set_cons_zero, List.set_cons_succ, true_and, Bool.false_eq_true, ↓reduceIte]
  first | exact ⟨_, trim1 ho rfl⟩ | exact ⟨_, trim1 ho rfl, rfl⟩ | exact ⟨_, trim1 ho rfl, rfl, rfl⟩ | exact ⟨_, trim1 ho rfl, by simp, rfl⟩ | exact ⟨_, trim1 ho rfl, by simp⟩
def O304 : Orc := O303.add 43 (StC fun st args r => ∃ (f x : F) (id : Nat), st[id]? = some (.cells (fC f)) ∧ sm f.1 ∧ sm x.1 ∧ okSt st ∧ args = [.agg (fC x), .ptr id 0] ∧ r = .bool (underB f.1 x.1))
theorem s304 : Sound Tryd.prog O304 := s303.addS c43 (by kernel_rfl) (by
  rintro args r st ⟨f, x, id, hg, hf, hx, ho, rfl, rfl⟩
  exact ⟨by simp [sf43], t43 f x id st hg hf hx ho⟩)
end Go.Sh.F
namespace Go.Sh.F
open Go.PathLaw Go.TreeLaw Go.Proofs
def O305 : Orc := O304.add 32 (StC fun st args r => ∃ (x : F) (p : List UInt8) (id : Nat), st[id]? = some (.cells [.str p]) ∧ sm p ∧ sm x.1 ∧ okSt st ∧ args = [.agg (fC x), .ptr id 0] ∧ r = .bool (clashB x.1 p))
theorem s305 : Sound Tryd.prog O305 := (show Sound Tryd.prog O304 from s304).addS c32 (by kernel_rfl) (by
  rintro args r st ⟨x, p, id, hg, hp, hx, ho, rfl, rfl⟩
  refine ⟨by simp [sf32], ?_⟩
  have hg2 : (st ++ [.cells (fC x)])[id]? = some (.cells [.str p]) := by rw [List.getElem?_append_left (List.getElem?_eq_some_iff.1 hg).1]; exact hg
  simp only [fC] at hg2
  have k : O304 33 [.str x.1, .str p] (st ++ [.cells [.str x.1, .str x.2]]) (.bool (clashB x.1 p)) (st ++ [.cells [.str x.1, .str x.2]]) := .inl (u33 hx hp)
  simp (maxSteps := 2000000) (disch := first | omega | (simp only [List.length_append, List.length_cons, List.length_nil, List.length_map] <;> omega)) only [sf32, fC, hg2, cv_agg, cell_str, getA0, Nat.add_zero, List.set_cons_zero, List.set_cons_succ, flg_bool, exc_str, exc_agg, swp_seq, swp_reg, seqK_n, evK_some, appK_eq, srun_nil, srun_cons, stepK_call, swpF_eq, sk_give, sk_fld, sk_load, sk_box, get_mk, raw_slot, raw_lit, put_some, wb_nil, ev_give, ev_fld, ev_box, ev_ldP, ldP_some, ro_bool, ro_str, ro1_str, got_str, got_agg, pubs, pubsFrom, List.map_cons, List.map_nil, List.getD_cons_zero, List.getD_cons_succ, List.set_cons_zero, List.set_cons_succ, List.getElem?_cons_zero, List.length_cons, List.length_nil, List.replicate_succ, List.replicate_zero, List.cons_append, List.nil_append, Nat.reduceAdd, Nat.reduceSub, Bool.false_eq_true, Option.map_some, ↓reduceIte, List.all_cons, List.all_nil, Bool.and_self, Nat.zero_add]
  refine callK_intro k ?_
  simp (maxSteps := 2000000) (disch := first | omega | (simp only [List.length_append, List.length_cons, List.length_nil, List.length_map] <;> omega)) only [List.set_cons_zero, List.set_cons_succ, flg_bool, swp_ret, seqK_n, evK_some, appK_eq, appC_eq, srun_nil, srun_cons, fin_ret, sk_give, get_mk, raw_slot, put_some, wb_nil, ev_give, ro_bool, List.map_cons, List.map_nil, List.getD_cons_zero, List.getD_cons_succ, List.set_cons_zero, List.set_cons_succ, true_and, Bool.false_eq_true, ↓reduceIte]
  first | exact ⟨_, trim1 ho rfl⟩ | exact ⟨_, trim1 ho rfl, rfl⟩ | exact ⟨_, trim1 ho rfl, rfl, rfl⟩ | exact ⟨_, trim1 ho rfl, by simp, rfl⟩ | exact ⟨_, trim1 ho rfl, by simp⟩)
/-- The first file of which something is so. -/
def fstF (q : F → Bool) : List F → Nat → Int
  | [], _ => -1
  | x :: r, k => if q x = true then k else fstF q r (k + 1)
theorem fst_at {q : F → Bool} : ∀ {t : List F} {i k : Nat} (hi : i < t.length), (∀ j (h : j < t.length), j < i → q t[j] = false) → q t[i] = true → fstF q t k = ((k + i : Nat) : Int)
  | x :: r, 0, k, hi, h, hq => by
    simp only [List.getElem_cons_zero] at hq
    unfold fstF
    rw [if_pos hq]; rfl
  | x :: r, i + 1, k, hi, h, hq => by
    have h0 := h 0 (by simp) (by omega)
    simp only [List.getElem_cons_zero] at h0
    unfold fstF
    rw [if_neg (by rw [h0]; simp), fst_at (t := r) (i := i) (k := k + 1) (by simpa using hi) (fun j hj hji => by
      have := h (j + 1) (by simpa using hj) (by omega)
      simpa using this) (by simpa using hq)]
    omega
theorem fst_none {q : F → Bool} : ∀ {t : List F} {k : Nat}, (∀ j (h : j < t.length), q t[j] = false) → fstF q t k = -1
  | [], k, _ => rfl
  | x :: r, k, h => by
    have h0 := h 0 (by simp)
    simp only [List.getElem_cons_zero] at h0
    unfold fstF
    rw [if_neg (by rw [h0]; simp), fst_none (t := r) (fun j hj => by have := h (j + 1) (by simpa using hj); simpa using this)]
theorem fst_any (q : F → Bool) : ∀ (t : List F) (k : Nat), decide (0 ≤ fstF q t k) = t.any q
  | [], k => rfl
  | x :: r, k => by
    unfold fstF
    rw [List.any_cons]
    by_cases h : q x = true
    · rw [if_pos h, h, Bool.true_or]
      simp
    · rw [if_neg h, fst_any q r (k + 1)]
      simp only [Bool.not_eq_true] at h
      rw [h, Bool.false_or]
/-- A closure over a tree: what it asks. -/
def CloOk (st : List Ob) (c : SV) (q : F → Bool) : Prop :=
  (∃ (f : F) (id : Nat), c = .fn 43 [] [.ptr id 0] ∧ st[id]? = some (.cells (fC f)) ∧ sm f.1 ∧ q = fun x => underB f.1 x.1) ∨ (∃ (p : List UInt8) (id : Nat), c = .fn 32 [] [.ptr id 0] ∧ st[id]? = some (.cells [.str p]) ∧ sm p ∧ q = fun x => clashB x.1 p)
theorem clo_call {st : List Ob} {c : SV} {q : F → Bool} (h : CloOk st c q) (ho : okSt st) : ∃ k id, c = .fn k [] [.ptr id 0] ∧ ∀ x : F, sm x.1 → O305 k [.agg (fC x), .ptr id 0] st (.bool (q x)) st := by
  rcases h with ⟨f, id, rfl, hg, hf, rfl⟩ | ⟨p, id, rfl, hg, hp, rfl⟩
  · exact ⟨43, id, rfl, fun x hx => .inl (.inr ⟨rfl, rfl, f, x, id, hg, hf, hx, ho, rfl, rfl⟩)⟩
  · exact ⟨32, id, rfl, fun x hx => .inr ⟨rfl, rfl, x, p, id, hg, hp, hx, ho, rfl, rfl⟩⟩
set_option maxHeartbeats 4000000 in
theorem t51 (v c : SV) (t : List F) (q : F → Bool) (st : List Ob) (hv : RowF st v t) (hs : smT t) (hc : CloOk st c q) (ho : okSt st) : swpF O305 sf51 [v, c] st (fun r st' => r = .int .i64 (fstF q t 0) ∧ st' = st) := by
  obtain ⟨kf, id, rfl, hk⟩ := clo_call hc ho
  have ib := fun i (hi : i < t.length) => RowAt.idxB hv hi .i64
  have ld := fun i (hi : i < t.length) => RowF.ld' hv hi
  obtain ⟨q1, q2, q3, q4, q6, q7⟩ := RowAt.facts hv
  have q5 := RowAt.lenL hv
  have hbl := hs.1
  simp (maxSteps := 2000000) (disch := first | omega | (simp only [List.length_append, List.length_cons, List.length_nil, List.length_map] <;> omega)) only [sf51, q1, q5, List.set_cons_zero, List.set_cons_succ, flg_int, swp_seq, swp_reg, swp_block, seqK_n, evK_some, appK_eq, srun_nil, srun_cons, swpF_eq, sk_mv, sk_give, sk_lenL, get_mk, raw_slot, raw_lit, put_some, wb_nil, ev_mv, ev_give, ro_int, List.map_cons, List.map_nil, List.getD_cons_zero, List.set_cons_zero, List.set_cons_succ, List.length_cons, List.length_nil, List.replicate_succ, List.replicate_zero, List.cons_append, List.nil_append, Nat.reduceAdd, Nat.reduceSub, Bool.false_eq_true, ↓reduceIte, Nat.zero_add, Int.reduceNeg]
  refine swp_lp (fun S => ∃ (i : Nat), i ≤ t.length ∧ (∀ j (h : j < t.length), j < i → q t[j] = false) ∧ S = ⟨[v, .fn kf [] [.ptr id 0], .undef, .undef, .int .i64 0, .undef, .undef, .int .i64 t.length, .int .i64 i] ++ List.replicate 10 .undef, st⟩)
    (fun S => match S.get 8 with | .int _ k => ((t.length : Int) - k).toNat | _ => 0)
    ⟨[v, .fn kf [] [.ptr id 0], .undef, .undef, .int .i64 0, .undef, .undef, .int .i64 t.length, .int .i64 0] ++ List.replicate 10 .undef, st⟩ ?_ ⟨0, Nat.zero_le _, fun _ _ h => absurd h (Nat.not_lt_zero _), rfl⟩ ?_
  · refine Forget.of ?_
    repeat first | exact fg_e | refine fg_d ?_ | refine fg_k rfl ?_
  rintro S ⟨i, hi, hall, rfl⟩
  by_cases him : i = t.length
  · have hd : decide ((i : Int) < (t.length : Int)) = false := by rw [decide_eq_false_iff_not]; omega
    rw [fst_none (fun j hj => hall j hj (by omega))]
    simp (maxSteps := 2000000) (disch := first | omega | (simp only [List.length_append, List.length_cons, List.length_nil, List.length_map] <;> omega)) only [hd, List.set_cons_zero, List.set_cons_succ, lpK_e, flg_int, swp_seq, swp_reg, swp_ret, swp_exit, swp_cond, seqK_n, seqK_e, blkK_e, condK_f, evK_some, appK_eq, srun_nil, srun_cons, fin_ret, sk_give, sk_bin, get_mk, raw_slot, raw_lit, put_some, wb_nil, ev_give, bin_lss, ro_int, List.map_cons, List.map_nil, List.getD_cons_zero, List.getD_cons_succ, List.set_cons_zero, List.set_cons_succ, List.replicate_succ, List.replicate_zero, List.cons_append, List.nil_append, true_and, Bool.false_eq_true, ↓reduceIte, Int.reduceNeg]
    first | exact ⟨_, .same, rfl, rfl⟩ | exact ⟨_, .same, rfl⟩ | exact ⟨_, .same⟩
  have hd : decide ((i : Int) < (t.length : Int)) = true := by rw [decide_eq_true_eq]; omega
  have hil : i < t.length := by omega
  have fin := fin_ltT hil
  have b1 := ib i hil
  have b2 := ld i hil
  have kk := hk t[i] (hs.2 _ (List.getElem_mem hil)).1
  simp (maxSteps := 2000000) (disch := first | omega | (simp only [List.length_append, List.length_cons, List.length_nil, List.length_map] <;> omega)) only [hd, b1, b2, q1, List.set_cons_zero, List.set_cons_succ, stepK_callv, callvK_fn, exc_int, exc_agg, exc_fn, sk_idxB, swp_seq, swp_reg, swp_skip, swp_block, swp_cond, seqK_n, condK_t, evK_some, appK_eq, srun_nil, srun_cons, sk_mv, sk_take, sk_bin, sk_load, get_mk, raw_slot, put_some, wb_nil, ev_mv, ev_take, bin_lss, ro_int, ro_fn, got_int, got_agg, pubs, pubsFrom, List.map_cons, List.map_nil, List.getD_cons_zero, List.getD_cons_succ, List.set_cons_zero, List.set_cons_succ, List.replicate_succ, List.replicate_zero, List.cons_append, List.nil_append, Bool.false_eq_true, ↓reduceIte, Int.reduceNeg]
  refine callK_intro kk ?_
  cases hq : q t[i] with
  | true =>
    rw [fst_at hil hall hq, Nat.zero_add]
    simp (maxSteps := 2000000) (disch := first | omega | (simp only [List.length_append, List.length_cons, List.length_nil, List.length_map] <;> omega)) only [List.set_cons_zero, List.set_cons_succ, lpK_r, flg_int, swp_seq, swp_reg, swp_ret, swp_cond, seqK_n, seqK_r, blkK_r, condK_t, evK_some, appK_eq, appC_eq, srun_nil, srun_cons, fin_ret, sk_mv, sk_give, get_mk, raw_slot, put_some, wb_nil, ev_mv, ev_give, ro_int, List.map_cons, List.map_nil, List.getD_cons_zero, List.getD_cons_succ, List.set_cons_zero, List.set_cons_succ, true_and, Bool.false_eq_true, ↓reduceIte, Int.reduceNeg]
    first | exact ⟨_, .same, rfl, rfl⟩ | exact ⟨_, .same, rfl⟩ | exact ⟨_, .same⟩
  | false =>
    simp (maxSteps := 2000000) (disch := first | omega | (simp only [List.length_append, List.length_cons, List.length_nil, List.length_map] <;> omega)) only [List.set_cons_zero, List.set_cons_succ, lpK_n, swp_reg, swp_skip, swp_cond, seqK_n, blkK_n, condK_f, evK_some, appK_eq, appC_eq, srun_nil, srun_cons, sk_mv, sk_bin, get_mk, raw_slot, raw_lit, put_some, wb_nil, ev_mv, bin_add, ro_int, List.map_cons, List.map_nil, List.getD_cons_zero, List.getD_cons_succ, List.set_cons_zero, List.set_cons_succ, Int.reduceNeg, wrap_i64]
    refine ⟨_, ?_, ⟨i + 1, by omega, fun j hj hji => ?_, rfl⟩, by exact fin⟩
    · refine Forget.of ?_
      repeat first | exact fg_e | refine fg_d ?_ | refine fg_k rfl ?_
    · by_cases hji' : j = i
      · subst hji'; exact hq
      · exact hall j hj (by omega)
def O306 : Orc := O305.add 51 (StC fun st args r => ∃ (v c : SV) (t : List F) (q : F → Bool), RowF st v t ∧ smT t ∧ CloOk st c q ∧ okSt st ∧ args = [v, c] ∧ r = .int .i64 (fstF q t 0))
theorem s306 : Sound Tryd.prog O306 := s305.addS c51 (by kernel_rfl) (by
  rintro args r st ⟨v, c, t, q, hv, hs, hc, ho, rfl, rfl⟩
  exact ⟨by simp [sf51], t51 v c t q st hv hs hc ho⟩)
theorem clo_facts {st : List Ob} {c : SV} {q : F → Bool} (h : CloOk st c q) : ro c = c ∧ got c = c ∧ exc c = false ∧ flg c = false := by
  rcases h with ⟨f, id, rfl, _⟩ | ⟨p, id, rfl, _⟩ <;> exact ⟨rfl, rfl, rfl, rfl⟩
theorem t36 (v c : SV) (t : List F) (q : F → Bool) (st : List Ob) (hv : RowF st v t) (hs : smT t) (hc : CloOk st c q) (ho : okSt st) : swpF O306 sf36 [v, c] st (fun r st' => r = .bool (t.any q) ∧ st' = st) := by
  obtain ⟨q1, q2, q3, q4, q6, q7⟩ := RowAt.facts hv
  obtain ⟨p1, p2, p3, p4⟩ := clo_facts hc
  have k : O306 51 [v, c] st (.int .i64 (fstF q t 0)) st := .inr ⟨rfl, rfl, v, c, t, q, hv, hs, hc, ho, rfl, rfl⟩
  have e := fst_any q t 0
  have hge : ∀ s, ev s (.bin .geq) [.int .i64 (fstF q t 0), .int .i64 0] = some (.bool (t.any q), [], s) := fun s => by rw [← e]; rfl
  simp (maxSteps := 2000000) (disch := first | omega | (simp only [List.length_append, List.length_cons, List.length_nil, List.length_map] <;> omega)) only [sf36, q1, q2, q3, p1, p2, p3, List.set_cons_zero, List.set_cons_succ, flg_bool, swp_seq, swp_reg, seqK_n, evK_some, appK_eq, srun_nil, srun_cons, stepK_call, swpF_eq, sk_mv, sk_give, get_mk, raw_slot, raw_lit, put_some, wb_nil, ev_mv, ev_give, ro_bool, pubs, pubsFrom, List.map_cons, List.map_nil, List.getD_cons_zero, List.getD_cons_succ, List.set_cons_zero, List.set_cons_succ, List.length_cons, List.length_nil, List.replicate_succ, List.replicate_zero, List.cons_append, List.nil_append, Nat.reduceAdd, Nat.reduceSub, Bool.false_eq_true, ↓reduceIte, Nat.zero_add]
  refine callK_intro k ?_
  simp (maxSteps := 2000000) (disch := first | omega | (simp only [List.length_append, List.length_cons, List.length_nil, List.length_map] <;> omega)) only [hge, List.set_cons_zero, List.set_cons_succ, flg_bool, swp_ret, seqK_n, evK_some, appK_eq, appC_eq, srun_nil, srun_cons, fin_ret, sk_give, sk_bin, get_mk, raw_slot, raw_lit, put_some, wb_nil, ev_give, ro_bool, List.map_cons, List.map_nil, List.getD_cons_zero, List.getD_cons_succ, List.set_cons_zero, List.set_cons_succ, true_and, Bool.false_eq_true, ↓reduceIte]
  first | exact ⟨_, .same, rfl, rfl⟩ | exact ⟨_, .same, rfl⟩ | exact ⟨_, .same⟩
def O307 : Orc := O306.add 36 (StC fun st args r => ∃ (v c : SV) (t : List F) (q : F → Bool), RowF st v t ∧ smT t ∧ CloOk st c q ∧ okSt st ∧ args = [v, c] ∧ r = .bool (t.any q))
theorem s307 : Sound Tryd.prog O307 := s306.addS c36 (by kernel_rfl) (by
  rintro args r st ⟨v, c, t, q, hv, hs, hc, ho, rfl, rfl⟩
  exact ⟨by simp [sf36], t36 v c t q st hv hs hc ho⟩)
end Go.Sh.F
namespace Go.Sh.F
open Go.PathLaw Go.TreeLaw Go.Proofs
theorem leq_strT {st : List Ob} {x y : List UInt8} : ev st (.bin .leq) [.str x, .str y] = some (.bool (!(lt y x)), [], st) := by rw [bin_leqS, leq_lt]
theorem Forget.cut0 {k : Nat} {xs bs : List SV} {st x : List Ob} (h : fg xs bs) (hk : k ≤ st.length) (hi : idOks st.length bs = true) (ho : okSt st) : Forget k ⟨xs, st ++ x⟩ ⟨bs, st⟩ := by
  have := Forget.cutA (k := k) (st := st) (l := []) (x := x) h (by simpa using hk) (by simpa using hi) (by simpa using ho)
  simpa using this
theorem u35 {a : List UInt8} (ha : sm a) (s : List Ob) : O307 35 [.str a] s (.bool (rightB a)) s := (by repeat first | exact Or.inr ⟨rfl, rfl, a, ha, rfl, rfl⟩ | refine Or.inl ?_)
theorem u36 {v c : SV} {t : List F} {q : F → Bool} {st : List Ob} (hv : RowF st v t) (hs : smT t) (hc : CloOk st c q) (ho : okSt st) : O307 36 [v, c] st (.bool (t.any q)) st := .inr ⟨rfl, rfl, v, c, t, q, hv, hs, hc, ho, rfl, rfl⟩
theorem u34 {v : SV} {t : List F} {p : List UInt8} {st : List Ob} (hv : RowF st v t) (hl : t.length ≤ 268435456) (ho : okSt st) : O307 34 [v, .str p] st (.tup [.int .i64 (binF t p), .bool (isB t p)]) st := (by repeat first | exact Or.inr ⟨rfl, rfl, v, t, p, hv, hl, ho, rfl, rfl⟩ | refine Or.inl ?_)
theorem st_fC {st : List Ob} {c : List SV} {f : F} (hc : c.length = 2) : ev (st ++ [.cells c]) (.store 2 true) [.ptr st.length 0, .agg [.str f.1, .str f.2]] = some (.undef, [], st ++ [.cells [.str f.1, .str f.2]]) := by
  have := st_aggA (st := st) (l := [.cells c]) (i := 0) (n := 2) (b := true) (xs := [.str f.1, .str f.2]) rfl rfl rfl rfl hc
  simpa only [Nat.add_zero, List.set_cons_zero] using this
set_option maxHeartbeats 16000000 in
theorem t19 (v : SV) (t : List F) (st : List Ob) (hv : RowF st v t) (hs : smT t) (ho : okSt st) : swpF O307 sf19 [v] st (fun r st' => r = .bool (rightT t) ∧ st' = st) := by
  have ib := fun i (hi : i < t.length) => RowAt.idxB hv hi .i64
  have ia := fun i (hi : i < t.length) => RowAt.idxA hv hi .i64
  have ld := fun i (hi : i < t.length) => RowF.ld' hv hi
  have f0 := fun i (hi : i < t.length) (x : List Ob) => RowF.f0 hv hi x
  have fl0 := fun i (hi : i < t.length) (s : List Ob) => RowAt.fld hv (by omega) (i * 2) 0 s
  obtain ⟨q1, q2, q3, q4, q6, q7⟩ := RowAt.facts hv
  have q5 := RowAt.lenL hv
  have hbl := hs.1
  have hR := right_at t
  rcases bf (decide ((16 : Int) < (t.length : Int))) with h16 | h16
  rotate_left
  · have e : rightT t = false := by
      rw [Bool.eq_false_iff]; intro h
      have := (hR.1 h).1
      have h16' := of_decide_eq_true h16
      omega
    rw [e]
    simp (maxSteps := 2000000) (disch := first | omega | (simp only [List.length_append, List.length_cons, List.length_nil, List.length_map] <;> omega)) only [sf19, h16, q1, q5, List.set_cons_zero, List.set_cons_succ, flg_bool, swp_seq, swp_reg, swp_ret, swp_cond, seqK_n, seqK_r, condK_t, evK_some, appK_eq, srun_nil, srun_cons, fin_ret, swpF_eq, sk_mv, sk_give, sk_bin, sk_lenL, get_mk, raw_slot, raw_lit, put_some, wb_nil, ev_mv, ev_give, bin_gtr, ro_bool, List.map_cons, List.map_nil, List.getD_cons_zero, List.getD_cons_succ, List.set_cons_zero, List.set_cons_succ, List.length_cons, List.length_nil, List.replicate_succ, List.replicate_zero, List.cons_append, List.nil_append, Nat.reduceSub, true_and, Bool.false_eq_true, ↓reduceIte, Nat.zero_add, gt_iff_lt]
    first | exact ⟨_, .same, rfl, rfl⟩ | exact ⟨_, .same, rfl⟩ | exact ⟨_, .same⟩
  have h16' : t.length ≤ 16 := by have := of_decide_eq_false h16; omega
  simp (maxSteps := 2000000) (disch := first | omega | (simp only [List.length_append, List.length_cons, List.length_nil, List.length_map] <;> omega)) only [sf19, h16, q1, q5, List.set_cons_zero, List.set_cons_succ, flg_bool, swp_seq, swp_reg, swp_skip, swp_block, swp_cond, seqK_n, condK_f, evK_some, appK_eq, srun_nil, srun_cons, swpF_eq, sk_mv, sk_give, sk_bin, sk_lenL, get_mk, raw_slot, raw_lit, put_some, wb_nil, ev_mv, ev_give, bin_gtr, ro_int, ro_bool, List.map_cons, List.map_nil, List.getD_cons_zero, List.getD_cons_succ, List.set_cons_zero, List.set_cons_succ, List.length_cons, List.length_nil, List.replicate_succ, List.replicate_zero, List.cons_append, List.nil_append, Nat.reduceSub, Bool.false_eq_true, ↓reduceIte, Nat.zero_add, gt_iff_lt]
  refine swp_lp (fun S => ∃ (i : Nat), i ≤ t.length ∧ (∀ j (h : j < t.length), j < i → rightB t[j].1 = true ∧ t[j].2.length ≤ 600 ∧ (0 < j → lt (t[j - 1]'(by omega)).1 t[j].1 = true) ∧ (t.any fun x => underB t[j].1 x.1) = false) ∧ S = ⟨[v, .undef, .undef, .undef, .undef, .undef, .undef, .undef, .undef, v, .int .i64 t.length, .int .i64 i] ++ List.replicate 36 .undef, st⟩)
    (fun S => match S.get 11 with | .int _ k => ((t.length : Int) - k).toNat | _ => 0)
    ⟨[v, .undef, .undef, .undef, .undef, .undef, .undef, .undef, .undef, v, .int .i64 t.length, .int .i64 0] ++ List.replicate 36 .undef, st⟩ ?_ ⟨0, Nat.zero_le _, fun _ _ h => absurd h (Nat.not_lt_zero _), rfl⟩ ?_
  · refine Forget.of ?_
    repeat first | exact fg_e | refine fg_d ?_ | refine fg_k rfl ?_
  rintro S ⟨i, hi, hall, rfl⟩
  by_cases him : i = t.length
  · have hd : decide ((i : Int) < (t.length : Int)) = false := by rw [decide_eq_false_iff_not]; omega
    have e : rightT t = true := hR.2 ⟨h16', fun j hj => hall j hj (by omega)⟩
    rw [e]
    simp (maxSteps := 2000000) (disch := first | omega | (simp only [List.length_append, List.length_cons, List.length_nil, List.length_map] <;> omega)) only [hd, List.set_cons_zero, List.set_cons_succ, lpK_e, flg_bool, swp_seq, swp_reg, swp_ret, swp_exit, swp_cond, seqK_n, seqK_e, blkK_e, condK_f, evK_some, appK_eq, srun_nil, srun_cons, fin_ret, sk_give, sk_bin, get_mk, raw_slot, raw_lit, put_some, wb_nil, ev_give, bin_lss, ro_bool, List.map_cons, List.map_nil, List.getD_cons_zero, List.getD_cons_succ, List.set_cons_zero, List.set_cons_succ, List.replicate_succ, List.replicate_zero, List.cons_append, List.nil_append, true_and, Bool.false_eq_true, ↓reduceIte]
    first | exact ⟨_, .same, rfl, rfl⟩ | exact ⟨_, .same, rfl⟩ | exact ⟨_, .same⟩
  have hd : decide ((i : Int) < (t.length : Int)) = true := by rw [decide_eq_true_eq]; omega
  have hil : i < t.length := by omega
  have fin := fin_ltT hil
  have no : (rightB t[i].1 = true → t[i].2.length ≤ 600 → (0 < i → lt (t[i - 1]'(by omega)).1 t[i].1 = true) → (t.any fun x => underB t[i].1 x.1) = false → False) → rightT t = false := by
    intro h
    rw [Bool.eq_false_iff]; intro hT
    obtain ⟨a1, a2, a3, a4⟩ := (hR.1 hT).2 i hil
    exact h a1 a2 a3 a4
  have b1 := ib i hil
  have b2 := ld i hil
  have sS := fun c (hc : c.length = 2) => st_fC (st := st) (c := c) (f := t[i]) hc
  have sSt := sS [.str [], .str []] rfl
  have kr := u35 (hs.2 _ (List.getElem_mem hil)).1 (st ++ [.cells [.str t[i].1, .str t[i].2]])
  have hvx : RowF (st ++ [.cells [.str t[i].1, .str t[i].2]]) v t := hv.mono _
  have hox : okSt (st ++ [.cells [.str t[i].1, .str t[i].2]]) := okSt_appL ho rfl
  have ku := u36 (c := .fn 43 [] [.ptr st.length 0]) (q := fun x => underB t[i].1 x.1) hvx hs (.inl ⟨t[i], st.length, rfl, by rw [getA0]; rfl, (hs.2 _ (List.getElem_mem hil)).1, rfl⟩) hox
  simp only [fC] at b2
  simp (maxSteps := 2000000) (disch := first | omega | (simp only [List.length_append, List.length_cons, List.length_nil, List.length_map] <;> omega)) only [hd, b1, b2, sSt, sk_mfnS, ev_mfn01, getA0, Nat.add_zero, List.set_cons_zero, List.set_cons_succ, stepK_callp, flg_fn, exc_int, exc_str, sk_idxB, swp_seq, swp_reg, swp_skip, swp_block, swp_cond, seqK_n, condK_t, evK_some, appK_eq, appC_eq, srun_nil, srun_cons, sk_mv, sk_take, sk_give, sk_bin, sk_un, sk_fld, sk_load, sk_store, sk_alloc, get_mk, raw_slot, put_some, put_none, wb_nil, ev_mv, ev_take, ev_give, ev_fld, bin_lss, ev_alloc, ev_ldP, ldP_some, ro_int, ro_str, ro_ptr, ro_fn, got_int, got_str, pubs, pubsFrom, List.map_cons, List.map_nil, List.getD_cons_zero, List.getD_cons_succ, List.set_cons_zero, List.set_cons_succ, List.getElem?_cons_zero, List.replicate_succ, List.replicate_zero, List.cons_append, List.nil_append, Bool.false_eq_true, Option.map_some, ↓reduceIte]
  refine callpK_intro (fun st2 => u35 (hs.2 _ (List.getElem_mem hil)).1 st2) ?_
  cases h1 : rightB t[i].1 with
  | false =>
    rw [no (fun a _ _ _ => by rw [a] at h1; cases h1)]
    simp (maxSteps := 2000000) (disch := first | omega | (simp only [List.length_append, List.length_cons, List.length_nil, List.length_map] <;> omega)) only [List.set_cons_zero, List.set_cons_succ, lpK_r, flg_bool, grd_s, swp_seq, swp_reg, swp_ret, swp_cond, seqK_n, seqK_r, blkK_r, condK_t, evK_some, appK_eq, grd_t, srun_nil, srun_cons, stepK_grd, fin_ret, sk_mv, sk_give, sk_pick, get_mk, raw_slot, raw_lit, put_some, wb_nil, ev_mv, ev_give, ev_pick, ev_not, ro_bool, List.map_cons, List.map_nil, List.getD_cons_zero, List.getD_cons_succ, List.set_cons_zero, List.set_cons_succ, true_and, Bool.false_eq_true, ↓reduceIte, reduceCtorEq, Bool.not_false]
    first | exact ⟨_, trim1 ho rfl⟩ | exact ⟨_, trim1 ho rfl, rfl⟩ | exact ⟨_, trim1 ho rfl, rfl, rfl⟩ | exact ⟨_, trim1 ho rfl, by simp, rfl⟩ | exact ⟨_, trim1 ho rfl, by simp⟩
  | true =>
  rcases bf (decide ((600 : Int) < (t[i].2.length : Int))) with h2 | h2
  rotate_left
  · rw [no (fun _ a _ _ => by have := of_decide_eq_true h2; omega)]
    simp (maxSteps := 2000000) (disch := first | omega | (simp only [List.length_append, List.length_cons, List.length_nil, List.length_map] <;> omega)) only [h2, getA0, List.set_cons_zero, List.set_cons_succ, lpK_r, flg_bool, grd_s, swp_seq, swp_reg, swp_ret, swp_cond, seqK_n, seqK_r, blkK_r, condK_t, evK_some, appK_eq, grd_t, srun_nil, srun_cons, stepK_grd, fin_ret, sk_mv, sk_give, sk_pick, sk_bin, sk_fld, sk_load, sk_lenS, get_mk, raw_slot, raw_lit, put_some, wb_nil, ev_mv, ev_give, ev_pick, ev_not, ev_fld, ev_lenS, bin_gtr, ev_ldP, ldP_some, ro_bool, ro_str, List.map_cons, List.map_nil, List.getD_cons_zero, List.getD_cons_succ, List.set_cons_zero, List.set_cons_succ, List.getElem?_cons_zero, List.getElem?_cons_succ, true_and, Bool.false_eq_true, Option.map_some, ↓reduceIte, Nat.zero_add, reduceCtorEq, Bool.not_true, gt_iff_lt]
    first | exact ⟨_, trim1 ho rfl⟩ | exact ⟨_, trim1 ho rfl, rfl⟩ | exact ⟨_, trim1 ho rfl, rfl, rfl⟩ | exact ⟨_, trim1 ho rfl, by simp, rfl⟩ | exact ⟨_, trim1 ho rfl, by simp⟩
  have h2' : t[i].2.length ≤ 600 := by have := of_decide_eq_false h2; omega
  have done : (0 < i → lt (t[i - 1]'(by omega)).1 t[i].1 = true) → (t.any fun x => underB t[i].1 x.1) = false → ∀ j (h : j < t.length), j < i + 1 → rightB t[j].1 = true ∧ t[j].2.length ≤ 600 ∧ (0 < j → lt (t[j - 1]'(by omega)).1 t[j].1 = true) ∧ (t.any fun x => underB t[j].1 x.1) = false := by
    intro a b j hj hji
    by_cases e : j = i
    · subst e; exact ⟨h1, h2', a, b⟩
    · exact hall j hj (by omega)
  have hidv : idOk st.length v = true := hv.idOk
  by_cases h0 : i = 0
  · subst h0
    simp (maxSteps := 2000000) (disch := first | omega | (simp only [List.length_append, List.length_cons, List.length_nil, List.length_map] <;> omega)) only [h2, q1, q2, q3, getA0, List.set_cons_zero, List.set_cons_succ, exc_fn, evK_some, appK_eq, grd_t, srun_cons, stepK_call, stepK_grd, sk_mv, sk_pick, sk_bin, sk_fld, sk_load, sk_lenS, get_mk, raw_slot, raw_lit, put_some, wb_nil, ev_mv, ev_pick, ev_not, ev_fld, ev_lenS, bin_gtr, ev_ldP, ldP_some, ro_int, ro_bool, ro_str, ro_fn, got_fn, pubs, pubsFrom, List.map_cons, List.map_nil, List.getD_cons_zero, List.getD_cons_succ, List.set_cons_zero, List.set_cons_succ, List.getElem?_cons_zero, List.getElem?_cons_succ, Bool.false_eq_true, Option.map_some, ↓reduceIte, decide_false, Nat.zero_mul, Nat.zero_add, Bool.not_true, gt_iff_lt, Int.cast_ofNat_Int, Int.reduceLT]
    refine callK_intro ku ?_
    cases hu : (t.any fun x => underB t[0].1 x.1) with
    | true =>
      rw [no (fun _ _ _ a => by rw [a] at hu; cases hu)]
      simp (maxSteps := 2000000) (disch := first | omega | (simp only [List.length_append, List.length_cons, List.length_nil, List.length_map] <;> omega)) only [List.set_cons_zero, List.set_cons_succ, lpK_r, flg_bool, swp_seq, swp_reg, swp_ret, swp_cond, seqK_n, seqK_r, blkK_r, condK_t, evK_some, appK_eq, appC_eq, srun_nil, srun_cons, fin_ret, sk_give, sk_pick, get_mk, raw_slot, raw_lit, put_some, wb_nil, ev_give, ev_pick, ro_bool, List.map_cons, List.map_nil, List.getD_cons_zero, List.getD_cons_succ, List.set_cons_zero, List.set_cons_succ, true_and, Bool.false_eq_true, ↓reduceIte]
      first | exact ⟨_, trim1 ho rfl⟩ | exact ⟨_, trim1 ho rfl, rfl⟩ | exact ⟨_, trim1 ho rfl, rfl, rfl⟩ | exact ⟨_, trim1 ho rfl, by simp, rfl⟩ | exact ⟨_, trim1 ho rfl, by simp⟩
    | false =>
      simp (maxSteps := 2000000) (disch := first | omega | (simp only [List.length_append, List.length_cons, List.length_nil, List.length_map] <;> omega)) only [List.set_cons_zero, List.set_cons_succ, lpK_n, swp_reg, swp_skip, swp_cond, seqK_n, blkK_n, condK_f, evK_some, appK_eq, appC_eq, srun_nil, srun_cons, sk_mv, sk_pick, sk_bin, get_mk, raw_slot, raw_lit, put_some, wb_nil, ev_mv, ev_pick, bin_add, ro_int, ro_bool, List.map_cons, List.map_nil, List.getD_cons_zero, List.getD_cons_succ, List.set_cons_zero, List.set_cons_succ, Bool.false_eq_true, ↓reduceIte, Int.reduceAdd, wrap_i64]
      refine ⟨_, Forget.cut0 ?_ (Nat.le_refl _) ?_ ho, ⟨0 + 1, by omega, done (fun a => absurd a (Nat.lt_irrefl _)) hu, rfl⟩, by exact fin⟩
      · repeat first | exact fg_e | refine fg_d ?_ | refine fg_k rfl ?_
      · simp [idOks, idOk, hidv]
  have h3 : decide ((0 : Int) < (i : Int)) = true := by rw [decide_eq_true_eq]; omega
  have e1 : IntKind.i64.wrap ((i : Int) - 1) = ((i - 1 : Nat) : Int) := by rw [wrap_i64 (by omega) (by omega)]; omega
  have hi1 : i - 1 < t.length := by omega
  have c1 := ia _ hi1
  have c2 := f0 _ hi1
  have c3 := fl0 _ hi1
  rw [Nat.add_zero] at c3
  cases h4 : lt t[i - 1].1 t[i].1 with
  | false =>
    rw [no (fun _ _ a _ => by rw [a (by omega)] at h4; cases h4)]
    simp (maxSteps := 2000000) (disch := first | omega | (simp only [List.length_append, List.length_cons, List.length_nil, List.length_map] <;> omega)) only [h2, h3, e1, c1, c2, c3, q1, leq_strT, h4, Bool.not_false, getA0, Nat.add_zero, List.set_cons_zero, List.set_cons_succ, lpK_r, flg_bool, swp_seq, swp_reg, swp_ret, swp_cond, seqK_n, seqK_r, blkK_r, condK_t, evK_some, appK_eq, grd_t, srun_nil, srun_cons, stepK_grd, fin_ret, sk_mv, sk_give, sk_pick, sk_bin, sk_fld, sk_idxA, sk_load, sk_lenS, get_mk, raw_slot, raw_lit, put_some, wb_nil, ev_mv, ev_give, ev_pick, ev_not, ev_fld, ev_lenS, bin_sub, bin_gtr, ev_ldP, ldP_some, ro_int, ro_bool, ro_str, List.map_cons, List.map_nil, List.getD_cons_zero, List.getD_cons_succ, List.set_cons_zero, List.set_cons_succ, List.getElem?_cons_zero, List.getElem?_cons_succ, true_and, Bool.false_eq_true, Option.map_some, ↓reduceIte, Nat.zero_add, reduceCtorEq, Bool.not_true, Bool.not_false, gt_iff_lt]
    first | exact ⟨_, trim1 ho rfl⟩ | exact ⟨_, trim1 ho rfl, rfl⟩ | exact ⟨_, trim1 ho rfl, rfl, rfl⟩ | exact ⟨_, trim1 ho rfl, by simp, rfl⟩ | exact ⟨_, trim1 ho rfl, by simp⟩
  | true =>
    simp (maxSteps := 2000000) (disch := first | omega | (simp only [List.length_append, List.length_cons, List.length_nil, List.length_map] <;> omega)) only [h2, h3, e1, c1, c2, c3, q1, q2, q3, leq_strT, h4, Bool.not_true, getA0, Nat.add_zero, List.set_cons_zero, List.set_cons_succ, exc_fn, evK_some, appK_eq, grd_t, srun_cons, stepK_call, stepK_grd, sk_mv, sk_pick, sk_bin, sk_fld, sk_idxA, sk_load, sk_lenS, get_mk, raw_slot, raw_lit, put_some, wb_nil, ev_mv, ev_pick, ev_not, ev_fld, ev_lenS, bin_sub, bin_gtr, ev_ldP, ldP_some, ro_int, ro_bool, ro_str, ro_fn, got_fn, pubs, pubsFrom, List.map_cons, List.map_nil, List.getD_cons_zero, List.getD_cons_succ, List.set_cons_zero, List.set_cons_succ, List.getElem?_cons_zero, List.getElem?_cons_succ, Bool.false_eq_true, Option.map_some, ↓reduceIte, Nat.zero_add, Bool.not_true, gt_iff_lt]
    refine callK_intro ku ?_
    cases hu : (t.any fun x => underB t[i].1 x.1) with
    | true =>
      rw [no (fun _ _ _ a => by rw [a] at hu; cases hu)]
      simp (maxSteps := 2000000) (disch := first | omega | (simp only [List.length_append, List.length_cons, List.length_nil, List.length_map] <;> omega)) only [List.set_cons_zero, List.set_cons_succ, lpK_r, flg_bool, swp_seq, swp_reg, swp_ret, swp_cond, seqK_n, seqK_r, blkK_r, condK_t, evK_some, appK_eq, appC_eq, srun_nil, srun_cons, fin_ret, sk_give, sk_pick, get_mk, raw_slot, raw_lit, put_some, wb_nil, ev_give, ev_pick, ro_bool, List.map_cons, List.map_nil, List.getD_cons_zero, List.getD_cons_succ, List.set_cons_zero, List.set_cons_succ, true_and, Bool.false_eq_true, ↓reduceIte]
      first | exact ⟨_, trim1 ho rfl⟩ | exact ⟨_, trim1 ho rfl, rfl⟩ | exact ⟨_, trim1 ho rfl, rfl, rfl⟩ | exact ⟨_, trim1 ho rfl, by simp, rfl⟩ | exact ⟨_, trim1 ho rfl, by simp⟩
    | false =>
      simp (maxSteps := 2000000) (disch := first | omega | (simp only [List.length_append, List.length_cons, List.length_nil, List.length_map] <;> omega)) only [List.set_cons_zero, List.set_cons_succ, lpK_n, swp_reg, swp_skip, swp_cond, seqK_n, blkK_n, condK_f, evK_some, appK_eq, appC_eq, srun_nil, srun_cons, sk_mv, sk_pick, sk_bin, get_mk, raw_slot, raw_lit, put_some, wb_nil, ev_mv, ev_pick, bin_add, ro_int, ro_bool, List.map_cons, List.map_nil, List.getD_cons_zero, List.getD_cons_succ, List.set_cons_zero, List.set_cons_succ, Bool.false_eq_true, ↓reduceIte, wrap_i64]
      refine ⟨_, Forget.cut0 ?_ (Nat.le_refl _) ?_ ho, ⟨i + 1, by omega, done (fun _ => h4) hu, rfl⟩, by exact fin⟩
      · repeat first | exact fg_e | refine fg_d ?_ | refine fg_k rfl ?_
      · simp [idOks, idOk, hidv]
def KRightT : List Ob → List SV → SV → Prop := fun st args r => ∃ (v : SV) (t : List F), RowF st v t ∧ smT t ∧ okSt st ∧ args = [v] ∧ r = .bool (rightT t)
def O308 : Orc := O307.add 19 (StC KRightT)
theorem s308 : Sound Tryd.prog O308 := s307.addS c19 (by kernel_rfl) (by
  rintro args r st ⟨v, t, hv, hs, ho, rfl, rfl⟩
  exact ⟨by simp [sf19], t19 v t st hv hs ho⟩)
theorem v19 {v : SV} {t : List F} {st : List Ob} (hv : RowF st v t) (hs : smT t) (ho : okSt st) : O308 19 [v] st (.bool (rightT t)) st := .inr ⟨rfl, rfl, v, t, hv, hs, ho, rfl, rfl⟩
/-- The place of a path in a right tree. -/
def findR (t : List F) (p : List UInt8) : Int := if rightT t = true ∧ has t p = true then (lowP p t : Int) else -1
theorem t21 (v : SV) (t : List F) (p : List UInt8) (st : List Ob) (hv : RowF st v t) (hs : smT t) (ho : okSt st) : swpF O308 sf21 [v, .str p] st (fun r st' => r = .int .i64 (findR t p) ∧ st' = st) := by
  obtain ⟨q1, q2, q3, q4, q6, q7⟩ := RowAt.facts hv
  have k34 : O308 34 [v, .str p] st (.tup [.int .i64 (binF t p), .bool (isB t p)]) st := .inl (u34 hv hs.1 ho)
  simp (maxSteps := 2000000) (disch := first | omega | (simp only [List.length_append, List.length_cons, List.length_nil, List.length_map] <;> omega)) only [sf21, q1, q2, q3, List.set_cons_zero, List.set_cons_succ, flg_int, exc_str, swp_seq, swp_reg, seqK_n, evK_some, appK_eq, srun_nil, srun_cons, stepK_call, swpF_eq, sk_mv, sk_give, get_mk, raw_slot, raw_lit, put_some, wb_nil, ev_mv, ev_give, ro_int, ro_str, got_str, pubs, pubsFrom, List.map_cons, List.map_nil, List.getD_cons_zero, List.getD_cons_succ, List.set_cons_zero, List.set_cons_succ, List.length_cons, List.length_nil, List.replicate_succ, List.replicate_zero, List.cons_append, List.nil_append, Nat.reduceAdd, Nat.reduceSub, Bool.false_eq_true, ↓reduceIte, Nat.zero_add, Int.reduceNeg]
  refine callK_intro k34 ?_
  cases hB : isB t p with
  | false =>
    have e : findR t p = -1 := by
      unfold findR
      rw [if_neg]
      rintro ⟨h1, h2⟩
      rw [isB_has (right_srt h1), h2] at hB
      cases hB
    rw [e]
    simp (maxSteps := 2000000) (disch := first | omega | (simp only [List.length_append, List.length_cons, List.length_nil, List.length_map] <;> omega)) only [List.set_cons_zero, List.set_cons_succ, flg_bool, flg_int, swp_seq, swp_reg, swp_skip, swp_ret, swp_cond, seqK_n, condK_f, evK_some, appK_eq, appC_eq, grd_t, srun_nil, srun_cons, stepK_grd, fin_ret, sk_mv, sk_give, sk_pick, sk_ext, get_mk, raw_slot, raw_lit, put_some, wb_nil, ev_mv, ev_give, ev_pick, ev_ext, ro_int, ro_bool, ro_tup, ro2_int, ro2_bool, List.map_cons, List.map_nil, List.getD_cons_zero, List.getD_cons_succ, List.set_cons_zero, List.set_cons_succ, List.getElem?_cons_zero, List.getElem?_cons_succ, true_and, Bool.false_eq_true, Option.map_some, ↓reduceIte, Int.reduceNeg]
    first | exact ⟨_, .same, rfl, rfl⟩ | exact ⟨_, .same, rfl⟩ | exact ⟨_, .same⟩
  | true =>
    simp (maxSteps := 2000000) (disch := first | omega | (simp only [List.length_append, List.length_cons, List.length_nil, List.length_map] <;> omega)) only [q2, q3, List.set_cons_zero, List.set_cons_succ, flg_bool, flg_int, swp_seq, swp_reg, seqK_n, evK_some, appK_eq, appC_eq, grd_t, srun_nil, srun_cons, stepK_call, stepK_grd, sk_mv, sk_take, sk_give, sk_ext, get_mk, raw_slot, put_some, wb_nil, ev_mv, ev_take, ev_give, ev_ext, ro_int, ro_bool, ro_tup, ro2_int, ro2_bool, pubs, pubsFrom, List.map_cons, List.map_nil, List.getD_cons_zero, List.getD_cons_succ, List.set_cons_zero, List.set_cons_succ, List.getElem?_cons_zero, List.getElem?_cons_succ, Bool.false_eq_true, Option.map_some, ↓reduceIte, Int.reduceNeg]
    refine callK_intro (v19 hv hs ho) ?_
    cases hR : rightT t with
    | false =>
      have e : findR t p = -1 := by
        unfold findR
        rw [if_neg]
        rintro ⟨h1, h2⟩
        rw [hR] at h1
        cases h1
      rw [e]
      simp (maxSteps := 2000000) (disch := first | omega | (simp only [List.length_append, List.length_cons, List.length_nil, List.length_map] <;> omega)) only [List.set_cons_zero, List.set_cons_succ, flg_int, swp_seq, swp_reg, swp_skip, swp_ret, swp_cond, seqK_n, condK_f, evK_some, appK_eq, appC_eq, srun_nil, srun_cons, fin_ret, sk_give, sk_pick, get_mk, raw_slot, raw_lit, put_some, wb_nil, ev_give, ev_pick, ro_int, ro_bool, List.map_cons, List.map_nil, List.getD_cons_zero, List.getD_cons_succ, List.set_cons_zero, List.set_cons_succ, true_and, Bool.false_eq_true, ↓reduceIte, Int.reduceNeg]
      first | exact ⟨_, .same, rfl, rfl⟩ | exact ⟨_, .same, rfl⟩ | exact ⟨_, .same⟩
    | true =>
      have e : findR t p = (binF t p : Int) := by
        unfold findR
        rw [if_pos ⟨hR, by rw [← isB_has (right_srt hR)]; exact hB⟩, bin_low (right_srt hR)]
      rw [e]
      simp (maxSteps := 2000000) (disch := first | omega | (simp only [List.length_append, List.length_cons, List.length_nil, List.length_map] <;> omega)) only [List.set_cons_zero, List.set_cons_succ, flg_int, swp_seq, swp_reg, swp_ret, swp_cond, seqK_n, seqK_r, condK_t, evK_some, appK_eq, appC_eq, srun_nil, srun_cons, fin_ret, sk_mv, sk_give, sk_pick, get_mk, raw_slot, raw_lit, put_some, wb_nil, ev_mv, ev_give, ev_pick, ro_int, ro_bool, List.map_cons, List.map_nil, List.getD_cons_zero, List.getD_cons_succ, List.set_cons_zero, List.set_cons_succ, true_and, Bool.false_eq_true, ↓reduceIte, Int.reduceNeg]
      first | exact ⟨_, .same, rfl, rfl⟩ | exact ⟨_, .same, rfl⟩ | exact ⟨_, .same⟩
def KFindT : List Ob → List SV → SV → Prop := fun st args r => ∃ (v : SV) (t : List F) (p : List UInt8), RowF st v t ∧ smT t ∧ okSt st ∧ args = [v, .str p] ∧ r = .int .i64 (findR t p)
def O309 : Orc := O308.add 21 (StC KFindT)
theorem s309 : Sound Tryd.prog O309 := s308.addS c21 (by kernel_rfl) (by
  rintro args r st ⟨v, t, p, hv, hs, ho, rfl, rfl⟩
  exact ⟨by simp [sf21], t21 v t p st hv hs ho⟩)
/-- What Get tells. -/
def getR (t : List F) (p : List UInt8) : Option (List UInt8) := if rightT t = true then getP p t else none
def getV (o : Option (List UInt8)) : SV := .tup [.str (o.getD []), .bool o.isSome]
theorem find_cases (t : List F) (p : List UInt8) : (findR t p = -1 ∧ getR t p = none) ∨ ∃ h : lowP p t < t.length, findR t p = (lowP p t : Int) ∧ getR t p = some t[lowP p t].2 := by
  unfold findR getR
  by_cases h : rightT t = true ∧ has t p = true
  · rw [if_pos h, if_pos h.1]
    obtain ⟨hl, e⟩ := (low_has (right_srt h.1)).1 h.2
    refine .inr ⟨hl, rfl, ?_⟩
    have := Go.TreeLaw.get_at (right_srt h.1) hl
    rw [e] at this
    exact this
  · rw [if_neg h]
    refine .inl ⟨rfl, ?_⟩
    by_cases hR : rightT t = true
    · rw [if_pos hR]
      have : has t p = false := by
        rw [Bool.eq_false_iff]; exact fun a => h ⟨hR, a⟩
      rw [has_get] at this
      simpa using this
    · rw [if_neg hR]
theorem t16 (v : SV) (t : List F) (p : List UInt8) (st : List Ob) (hv : RowF st v t) (hs : smT t) (ho : okSt st) : swpF O309 sf16 [v, .str p] st (fun r st' => r = getV (getR t p) ∧ st' = st) := by
  obtain ⟨q1, q2, q3, q4, q6, q7⟩ := RowAt.facts hv
  have k21 : O309 21 [v, .str p] st (.int .i64 (findR t p)) st := .inr ⟨rfl, rfl, v, t, p, hv, hs, ho, rfl, rfl⟩
  simp (maxSteps := 2000000) (disch := first | omega | (simp only [List.length_append, List.length_cons, List.length_nil, List.length_map] <;> omega)) only [sf16, q1, q2, q3, List.set_cons_zero, List.set_cons_succ, flg_bool, flg_str, exc_str, swp_seq, swp_reg, seqK_n, evK_some, appK_eq, srun_nil, srun_cons, stepK_call, swpF_eq, sk_mv, sk_give, get_mk, raw_slot, raw_lit, put_some, wb_nil, ev_mv, ev_give, ro_bool, ro_str, got_str, pubs, pubsFrom, List.map_cons, List.map_nil, List.getD_cons_zero, List.getD_cons_succ, List.set_cons_zero, List.set_cons_succ, List.length_cons, List.length_nil, List.replicate_succ, List.replicate_zero, List.cons_append, List.nil_append, Nat.reduceAdd, Nat.reduceSub, Bool.false_eq_true, ↓reduceIte, Nat.zero_add]
  refine callK_intro k21 ?_
  rcases find_cases t p with ⟨e1, e2⟩ | ⟨hl, e1, e2⟩
  · rw [e1, e2]
    simp (maxSteps := 2000000) (disch := first | omega | (simp only [List.length_append, List.length_cons, List.length_nil, List.length_map] <;> omega)) only [getV, List.set_cons_zero, List.set_cons_succ, flg_bool, flg_int, flg_str, swp_seq, swp_reg, swp_ret, swp_cond, seqK_n, seqK_r, condK_t, evK_some, appK_eq, appC_eq, srun_nil, srun_cons, fin_two, sk_mv, sk_give, sk_bin, get_mk, raw_slot, raw_lit, put_some, wb_nil, ev_mv, ev_give, bin_lss, ro_int, ro_bool, ro_str, List.map_cons, List.map_nil, List.getD_cons_zero, List.getD_cons_succ, List.set_cons_zero, List.set_cons_succ, Bool.false_eq_true, ↓reduceIte, decide_true, Int.reduceLT, Int.reduceNeg]
    first | exact ⟨_, .same, rfl, rfl⟩ | exact ⟨_, .same, rfl⟩ | exact ⟨_, .same⟩
  · rw [e1, e2]
    have b1 := RowAt.idxB hv hl .i64
    have b2 := fun s => RowAt.fld hv (by omega) (lowP p t * 2) 1 s
    have b3 := RowF.f1 hv hl []
    rw [List.append_nil] at b3
    have hd : decide ((lowP p t : Int) < 0) = false := by rw [decide_eq_false_iff_not]; omega
    simp (maxSteps := 2000000) (disch := first | omega | (simp only [List.length_append, List.length_cons, List.length_nil, List.length_map] <;> omega)) only [hd, b1, b2, b3, q1, getV, List.set_cons_zero, List.set_cons_succ, flg_bool, flg_int, flg_str, sk_idxB, swp_seq, swp_reg, swp_skip, swp_ret, swp_cond, seqK_n, condK_f, evK_some, appK_eq, appC_eq, srun_nil, srun_cons, fin_two, sk_mv, sk_give, sk_bin, sk_fld, sk_load, get_mk, raw_slot, raw_lit, put_some, wb_nil, ev_mv, ev_give, bin_lss, ro_int, ro_bool, ro_str, List.map_cons, List.map_nil, List.getD_cons_zero, List.getD_cons_succ, List.set_cons_zero, List.set_cons_succ, Bool.false_eq_true, ↓reduceIte]
    first | exact ⟨_, .same, rfl, rfl⟩ | exact ⟨_, .same, rfl⟩ | exact ⟨_, .same⟩
def KGetT : List Ob → List SV → SV → Prop := fun st args r => ∃ (v : SV) (t : List F) (p : List UInt8), RowF st v t ∧ smT t ∧ okSt st ∧ args = [v, .str p] ∧ r = getV (getR t p)
def O310 : Orc := O309.add 16 (StC KGetT)
theorem s310 : Sound Tryd.prog O310 := s309.addS c16 (by kernel_rfl) (by
  rintro args r st ⟨v, t, p, hv, hs, ho, rfl, rfl⟩
  exact ⟨by simp [sf16], t16 v t p st hv hs ho⟩)
end Go.Sh.F
namespace Go.Sh.F
open Go.PathLaw Go.TreeLaw Go.Proofs
theorem eqA_fC {st : List Ob} {n : Bool} {f g : F} : ev st (.eqA n [.s, .s]) [.agg [.str f.1, .str f.2], .agg [.str g.1, .str g.2]] = some (.bool (if n then !(f == g) else f == g), [], st) := by
  have e : (f == g) = (f.1 == g.1 && f.2 == g.2) := rfl
  rw [e]
  cases h1 : (f.1 == g.1) <;> cases h2 : (f.2 == g.2) <;> cases n <;> simp [ev_eqA, eqKs, eqK, h1, h2]
theorem take_sucF {t : List F} {i : Nat} (h : i < t.length) : t.take (i + 1) = t.take i ++ [t[i]] := (List.take_append_getElem h).symm
theorem eq_takeT {a b : List F} {i : Nat} (h : a.take i = b.take i) (ha : i < a.length) (hb : i < b.length) (e : a[i] = b[i]) : a.take (i + 1) = b.take (i + 1) := by
  rw [take_sucF ha, take_sucF hb, h, e]
set_option maxHeartbeats 4000000 in
theorem t44 (O : Orc) (v w : SV) (a b : List F) (st : List Ob) (hv : RowF st v a) (hw : RowF st w b) (hl : a.length ≤ 268435456) : swpF O sf44 [v, w] st (fun r st' => r = .bool (decide (a = b)) ∧ st' = st) := by
  have ib := fun i (hi : i < a.length) => RowAt.idxA hv hi .i64
  have ld := fun i (hi : i < a.length) => RowF.ld' hv hi
  have ib2 := fun i (hi : i < b.length) => RowAt.idxA hw hi .i64
  have ld2 := fun i (hi : i < b.length) => RowF.ld' hw hi
  obtain ⟨q1, q2, q3, q4, q6, q7⟩ := RowAt.facts hv
  have q5 := RowAt.lenL hv
  obtain ⟨p1, p2, p3, p4, p6, p7⟩ := RowAt.facts hw
  have p5 := RowAt.lenL hw
  simp only [fC] at ld ld2
  by_cases hn : a.length = b.length
  case neg =>
    have h1 : (((a.length : Int)) == (b.length : Int)) = false := by rw [beq_eq_false_iff_ne]; omega
    have e : decide (a = b) = false := by rw [decide_eq_false_iff_not]; rintro rfl; exact hn rfl
    rw [e]
    simp (maxSteps := 2000000) (disch := first | omega | (simp only [List.length_append, List.length_cons, List.length_nil, List.length_map] <;> omega)) only [sf44, h1, Bool.not_false, q1, q5, p1, p5, nbI, List.set_cons_zero, List.set_cons_succ, flg_bool, swp_seq, swp_reg, swp_ret, swp_cond, seqK_n, seqK_r, condK_t, evK_some, appK_eq, srun_nil, srun_cons, fin_ret, swpF_eq, sk_mv, sk_give, sk_bin, sk_lenL, get_mk, raw_slot, raw_lit, put_some, wb_nil, ev_mv, ev_give, bin_neq, ro_bool, List.map_cons, List.map_nil, List.getD_cons_zero, List.getD_cons_succ, List.set_cons_zero, List.set_cons_succ, List.length_cons, List.length_nil, List.replicate_succ, List.replicate_zero, List.cons_append, List.nil_append, Nat.reduceAdd, Nat.reduceSub, true_and, Bool.false_eq_true, ↓reduceIte, Nat.zero_add, Bool.not_false]
    first | exact ⟨_, .same, rfl, rfl⟩ | exact ⟨_, .same, rfl⟩ | exact ⟨_, .same⟩
  have h1 : (((a.length : Int)) == (b.length : Int)) = true := by rw [beq_iff_eq]; omega
  simp (maxSteps := 2000000) (disch := first | omega | (simp only [List.length_append, List.length_cons, List.length_nil, List.length_map] <;> omega)) only [sf44, h1, Bool.not_true, q1, q5, p1, p5, nbI, List.set_cons_zero, List.set_cons_succ, flg_bool, swp_seq, swp_reg, swp_skip, swp_block, swp_cond, seqK_n, condK_f, evK_some, appK_eq, srun_nil, srun_cons, swpF_eq, sk_mv, sk_give, sk_bin, sk_lenL, get_mk, raw_slot, raw_lit, put_some, wb_nil, ev_mv, ev_give, bin_neq, ro_int, ro_bool, List.map_cons, List.map_nil, List.getD_cons_zero, List.getD_cons_succ, List.set_cons_zero, List.set_cons_succ, List.length_cons, List.length_nil, List.replicate_succ, List.replicate_zero, List.cons_append, List.nil_append, Nat.reduceAdd, Nat.reduceSub, Bool.false_eq_true, ↓reduceIte, Nat.zero_add, Bool.not_true]
  refine swp_lp (fun S => ∃ (i : Nat), i ≤ a.length ∧ a.take i = b.take i ∧ S = ⟨[v, w] ++ List.replicate 10 .undef ++ [.int .i64 a.length, .int .i64 i] ++ List.replicate 12 .undef, st⟩)
    (fun S => match S.get 13 with | .int _ k => ((a.length : Int) - k).toNat | _ => 0)
    ⟨[v, w] ++ List.replicate 10 .undef ++ [.int .i64 a.length, .int .i64 0] ++ List.replicate 12 .undef, st⟩ ?_ ⟨0, Nat.zero_le _, rfl, rfl⟩ ?_
  · refine Forget.of ?_
    repeat first | exact fg_e | refine fg_d ?_ | refine fg_k rfl ?_
  rintro S ⟨i, hi, hall, rfl⟩
  simp only [List.replicate_succ, List.replicate_zero, List.cons_append, List.nil_append]
  by_cases him : i = a.length
  · have hd : decide ((i : Int) < (a.length : Int)) = false := by rw [decide_eq_false_iff_not]; omega
    have e : decide (a = b) = true := by
      rw [decide_eq_true_eq]
      rw [him, List.take_length, hn, List.take_length] at hall
      exact hall
    rw [e]
    simp (maxSteps := 2000000) (disch := first | omega | (simp only [List.length_append, List.length_cons, List.length_nil, List.length_map] <;> omega)) only [hd, List.set_cons_zero, List.set_cons_succ, lpK_e, flg_bool, swp_seq, swp_reg, swp_ret, swp_exit, swp_cond, seqK_n, seqK_e, blkK_e, condK_f, evK_some, appK_eq, srun_nil, srun_cons, fin_ret, sk_give, sk_bin, get_mk, raw_slot, raw_lit, put_some, wb_nil, ev_give, bin_lss, ro_bool, List.map_cons, List.map_nil, List.getD_cons_zero, List.getD_cons_succ, List.set_cons_zero, List.set_cons_succ, true_and, Bool.false_eq_true, ↓reduceIte]
    first | exact ⟨_, .same, rfl, rfl⟩ | exact ⟨_, .same, rfl⟩ | exact ⟨_, .same⟩
  have hd : decide ((i : Int) < (a.length : Int)) = true := by rw [decide_eq_true_eq]; omega
  have hil : i < a.length := by omega
  have hil2 : i < b.length := by omega
  have fin := fin_ltT hil
  have b1 := ib i hil
  have b2 := ld i hil
  have b3 := ib2 i hil2
  have b4 := ld2 i hil2
  by_cases he : a[i] = b[i]
  · have he2 : (a[i] == b[i]) = true := by rw [beq_iff_eq]; exact he
    simp (maxSteps := 2000000) (disch := first | omega | (simp only [List.length_append, List.length_cons, List.length_nil, List.length_map] <;> omega)) only [hd, b1, b2, b3, b4, eqA_fC, he2, Bool.not_true, q1, p1, List.set_cons_zero, List.set_cons_succ, lpK_n, exc_int, swp_seq, swp_reg, swp_skip, swp_block, swp_cond, seqK_n, blkK_n, condK_t, condK_f, evK_some, appK_eq, srun_nil, srun_cons, sk_mv, sk_take, sk_bin, sk_eqA, sk_idxA, sk_load, get_mk, raw_slot, raw_lit, put_some, wb_nil, ev_mv, ev_take, bin_add, bin_lss, ro_int, got_int, List.map_cons, List.map_nil, List.getD_cons_zero, List.getD_cons_succ, List.set_cons_zero, List.set_cons_succ, Bool.false_eq_true, ↓reduceIte, Bool.not_true, wrap_i64]
    refine ⟨_, ?_, ⟨i + 1, by omega, eq_takeT hall hil hil2 he, rfl⟩, by exact fin⟩
    refine Forget.of ?_
    repeat first | exact fg_e | refine fg_d ?_ | refine fg_k rfl ?_
  · have he2 : (a[i] == b[i]) = false := by rw [beq_eq_false_iff_ne]; exact he
    have e : decide (a = b) = false := by rw [decide_eq_false_iff_not]; rintro rfl; exact he rfl
    rw [e]
    simp (maxSteps := 2000000) (disch := first | omega | (simp only [List.length_append, List.length_cons, List.length_nil, List.length_map] <;> omega)) only [hd, b1, b2, b3, b4, eqA_fC, he2, Bool.not_false, q1, p1, List.set_cons_zero, List.set_cons_succ, lpK_r, flg_bool, exc_int, swp_seq, swp_reg, swp_skip, swp_ret, swp_block, swp_cond, seqK_n, seqK_r, blkK_r, condK_t, evK_some, appK_eq, srun_nil, srun_cons, fin_ret, sk_mv, sk_take, sk_give, sk_bin, sk_eqA, sk_idxA, sk_load, get_mk, raw_slot, raw_lit, put_some, wb_nil, ev_mv, ev_take, ev_give, bin_lss, ro_int, ro_bool, got_int, List.map_cons, List.map_nil, List.getD_cons_zero, List.getD_cons_succ, List.set_cons_zero, List.set_cons_succ, true_and, Bool.false_eq_true, ↓reduceIte, Bool.not_false]
    first | exact ⟨_, .same, rfl, rfl⟩ | exact ⟨_, .same, rfl⟩ | exact ⟨_, .same⟩
def KEqT : List Ob → List SV → SV → Prop := fun st args r => ∃ (v w : SV) (a b : List F), RowF st v a ∧ RowF st w b ∧ a.length ≤ 268435456 ∧ args = [v, w] ∧ r = .bool (decide (a = b))
def O311 : Orc := O310.add 44 (StC KEqT)
theorem s311 : Sound Tryd.prog O311 := s310.addS c44 (by kernel_rfl) (by
  rintro args r st ⟨v, w, a, b, hv, hw, hl, rfl, rfl⟩
  exact ⟨by simp [sf44], t44 _ v w a b st hv hw hl⟩)
theorem t23 (v w : SV) (a b : List F) (st : List Ob) (hv : RowF st v a) (hw : RowF st w b) (hl : a.length ≤ 268435456) : swpF O311 sf23 [v, w] st (fun r st' => r = .bool (decide (a = b)) ∧ st' = st) := by
  obtain ⟨q1, q2, q3, q4, q6, q7⟩ := RowAt.facts hv
  obtain ⟨p1, p2, p3, p4, p6, p7⟩ := RowAt.facts hw
  have k : O311 44 [v, w] st (.bool (decide (a = b))) st := .inr ⟨rfl, rfl, v, w, a, b, hv, hw, hl, rfl, rfl⟩
  simp (maxSteps := 2000000) (disch := first | omega | (simp only [List.length_append, List.length_cons, List.length_nil, List.length_map] <;> omega)) only [sf23, q1, q2, q3, p1, p2, p3, List.set_cons_zero, List.set_cons_succ, flg_bool, swp_seq, swp_reg, seqK_n, evK_some, appK_eq, srun_nil, srun_cons, stepK_call, swpF_eq, sk_mv, sk_give, get_mk, raw_slot, raw_lit, put_some, wb_nil, ev_mv, ev_give, ro_bool, pubs, pubsFrom, List.map_cons, List.map_nil, List.getD_cons_zero, List.getD_cons_succ, List.set_cons_zero, List.set_cons_succ, List.length_cons, List.length_nil, List.replicate_succ, List.replicate_zero, List.cons_append, List.nil_append, Nat.reduceAdd, Nat.reduceSub, Bool.false_eq_true, ↓reduceIte, Nat.zero_add]
  refine callK_intro k ?_
  simp (maxSteps := 2000000) (disch := first | omega | (simp only [List.length_append, List.length_cons, List.length_nil, List.length_map] <;> omega)) only [List.set_cons_zero, List.set_cons_succ, flg_bool, swp_ret, seqK_n, evK_some, appK_eq, appC_eq, srun_nil, srun_cons, fin_ret, sk_give, get_mk, raw_slot, put_some, wb_nil, ev_give, ro_bool, List.map_cons, List.map_nil, List.getD_cons_zero, List.getD_cons_succ, List.set_cons_zero, List.set_cons_succ, true_and, Bool.false_eq_true, ↓reduceIte]
  first | exact ⟨_, .same, rfl, rfl⟩ | exact ⟨_, .same, rfl⟩ | exact ⟨_, .same⟩
def O312 : Orc := O311.add 23 (StC KEqT)
theorem s312 : Sound Tryd.prog O312 := s311.addS c23 (by kernel_rfl) (by
  rintro args r st ⟨v, w, a, b, hv, hw, hl, rfl, rfl⟩
  exact ⟨by simp [sf23], t23 v w a b st hv hw hl⟩)
set_option maxHeartbeats 4000000 in
theorem t18 (O : Orc) (v w : SV) (a b : List F) (st : List Ob) (hv : RowF st v a) (hw : RowF st w b) (hl : a.length ≤ 268435456) : swpF O sf18 [v, w] st (fun r st' => r = .bool (decide (a = b)) ∧ st' = st) := by
  have ib := fun i (hi : i < a.length) => RowAt.idxA hv hi .i64
  have ld := fun i (hi : i < a.length) => RowF.ld' hv hi
  have ib2 := fun i (hi : i < b.length) => RowAt.idxA hw hi .i64
  have ld2 := fun i (hi : i < b.length) => RowF.ld' hw hi
  obtain ⟨q1, q2, q3, q4, q6, q7⟩ := RowAt.facts hv
  have q5 := RowAt.lenL hv
  obtain ⟨p1, p2, p3, p4, p6, p7⟩ := RowAt.facts hw
  have p5 := RowAt.lenL hw
  simp only [fC] at ld ld2
  by_cases hn : a.length = b.length
  case neg =>
    have h1 : (((a.length : Int)) == (b.length : Int)) = false := by rw [beq_eq_false_iff_ne]; omega
    have e : decide (a = b) = false := by rw [decide_eq_false_iff_not]; rintro rfl; exact hn rfl
    rw [e]
    simp (maxSteps := 2000000) (disch := first | omega | (simp only [List.length_append, List.length_cons, List.length_nil, List.length_map] <;> omega)) only [sf18, h1, Bool.not_false, q1, q5, p1, p5, nbI, List.set_cons_zero, List.set_cons_succ, flg_bool, swp_seq, swp_reg, swp_ret, swp_cond, seqK_n, seqK_r, condK_t, evK_some, appK_eq, srun_nil, srun_cons, fin_ret, swpF_eq, sk_mv, sk_give, sk_bin, sk_lenL, get_mk, raw_slot, raw_lit, put_some, wb_nil, ev_mv, ev_give, bin_neq, ro_bool, List.map_cons, List.map_nil, List.getD_cons_zero, List.getD_cons_succ, List.set_cons_zero, List.set_cons_succ, List.length_cons, List.length_nil, List.replicate_succ, List.replicate_zero, List.cons_append, List.nil_append, Nat.reduceAdd, Nat.reduceSub, true_and, Bool.false_eq_true, ↓reduceIte, Nat.zero_add, Bool.not_false]
    first | exact ⟨_, .same, rfl, rfl⟩ | exact ⟨_, .same, rfl⟩ | exact ⟨_, .same⟩
  have h1 : (((a.length : Int)) == (b.length : Int)) = true := by rw [beq_iff_eq]; omega
  simp (maxSteps := 2000000) (disch := first | omega | (simp only [List.length_append, List.length_cons, List.length_nil, List.length_map] <;> omega)) only [sf18, h1, Bool.not_true, q1, q5, p1, p5, nbI, List.set_cons_zero, List.set_cons_succ, flg_bool, exc_int, swp_seq, swp_reg, swp_skip, swp_block, swp_cond, seqK_n, condK_f, evK_some, appK_eq, srun_nil, srun_cons, swpF_eq, sk_mv, sk_take, sk_give, sk_bin, sk_lenL, get_mk, raw_slot, raw_lit, put_some, wb_nil, ev_mv, ev_take, ev_give, bin_neq, ro_bool, got_int, List.map_cons, List.map_nil, List.getD_cons_zero, List.getD_cons_succ, List.set_cons_zero, List.set_cons_succ, List.length_cons, List.length_nil, List.replicate_succ, List.replicate_zero, List.cons_append, List.nil_append, Nat.reduceAdd, Nat.reduceSub, Bool.false_eq_true, ↓reduceIte, Nat.zero_add, Bool.not_true]
  refine swp_lp (fun S => ∃ (i : Nat), i ≤ a.length ∧ a.take i = b.take i ∧ S = ⟨[v, w, .undef, .undef, .undef, .int .i64 i] ++ List.replicate 20 .undef, st⟩)
    (fun S => match S.get 5 with | .int _ k => ((a.length : Int) - k).toNat | _ => 0)
    ⟨[v, w, .undef, .undef, .undef, .int .i64 0] ++ List.replicate 20 .undef, st⟩ ?_ ⟨0, Nat.zero_le _, rfl, rfl⟩ ?_
  · refine Forget.of ?_
    repeat first | exact fg_e | refine fg_d ?_ | refine fg_k rfl ?_
  rintro S ⟨i, hi, hall, rfl⟩
  by_cases him : i = a.length
  · have hd : decide ((i : Int) < (a.length : Int)) = false := by rw [decide_eq_false_iff_not]; omega
    have e : decide (a = b) = true := by
      rw [decide_eq_true_eq]
      rw [him, List.take_length, hn, List.take_length] at hall
      exact hall
    rw [e]
    simp (maxSteps := 2000000) (disch := first | omega | (simp only [List.length_append, List.length_cons, List.length_nil, List.length_map] <;> omega)) only [hd, q1, q5, List.set_cons_zero, List.set_cons_succ, lpK_e, flg_bool, swp_seq, swp_reg, swp_ret, swp_exit, swp_cond, seqK_n, seqK_e, blkK_e, condK_f, evK_some, appK_eq, srun_nil, srun_cons, fin_ret, sk_mv, sk_give, sk_bin, sk_lenL, get_mk, raw_slot, raw_lit, put_some, wb_nil, ev_mv, ev_give, bin_lss, ro_int, ro_bool, List.map_cons, List.map_nil, List.getD_cons_zero, List.getD_cons_succ, List.set_cons_zero, List.set_cons_succ, List.replicate_succ, List.replicate_zero, List.cons_append, List.nil_append, true_and, Bool.false_eq_true, ↓reduceIte]
    first | exact ⟨_, .same, rfl, rfl⟩ | exact ⟨_, .same, rfl⟩ | exact ⟨_, .same⟩
  have hd : decide ((i : Int) < (a.length : Int)) = true := by rw [decide_eq_true_eq]; omega
  have hil : i < a.length := by omega
  have hil2 : i < b.length := by omega
  have fin := fin_ltT hil
  have b1 := ib i hil
  have b2 := ld i hil
  have b3 := ib2 i hil2
  have b4 := ld2 i hil2
  by_cases he : a[i] = b[i]
  · have he2 : (a[i] == b[i]) = true := by rw [beq_iff_eq]; exact he
    simp (maxSteps := 2000000) (disch := first | omega | (simp only [List.length_append, List.length_cons, List.length_nil, List.length_map] <;> omega)) only [hd, b1, b2, b3, b4, eqA_fC, he2, Bool.not_true, q1, q5, p1, List.set_cons_zero, List.set_cons_succ, lpK_n, flg_int, swp_seq, swp_reg, swp_skip, swp_block, swp_cond, seqK_n, blkK_n, condK_t, condK_f, evK_some, appK_eq, srun_nil, srun_cons, sk_mv, sk_give, sk_bin, sk_eqA, sk_idxA, sk_load, sk_lenL, get_mk, raw_slot, raw_lit, put_some, wb_nil, ev_mv, ev_give, bin_add, bin_lss, ro_int, List.map_cons, List.map_nil, List.getD_cons_zero, List.getD_cons_succ, List.set_cons_zero, List.set_cons_succ, List.replicate_succ, List.replicate_zero, List.cons_append, List.nil_append, Bool.false_eq_true, ↓reduceIte, Bool.not_true, wrap_i64]
    refine ⟨_, ?_, ⟨i + 1, by omega, eq_takeT hall hil hil2 he, rfl⟩, by exact fin⟩
    refine Forget.of ?_
    repeat first | exact fg_e | refine fg_d ?_ | refine fg_k rfl ?_
  · have he2 : (a[i] == b[i]) = false := by rw [beq_eq_false_iff_ne]; exact he
    have e : decide (a = b) = false := by rw [decide_eq_false_iff_not]; rintro rfl; exact he rfl
    rw [e]
    simp (maxSteps := 2000000) (disch := first | omega | (simp only [List.length_append, List.length_cons, List.length_nil, List.length_map] <;> omega)) only [hd, b1, b2, b3, b4, eqA_fC, he2, Bool.not_false, q1, q5, p1, List.set_cons_zero, List.set_cons_succ, lpK_r, flg_bool, swp_seq, swp_reg, swp_skip, swp_ret, swp_block, swp_cond, seqK_n, seqK_r, blkK_r, condK_t, evK_some, appK_eq, srun_nil, srun_cons, fin_ret, sk_mv, sk_give, sk_bin, sk_eqA, sk_idxA, sk_load, sk_lenL, get_mk, raw_slot, raw_lit, put_some, wb_nil, ev_mv, ev_give, bin_lss, ro_int, ro_bool, List.map_cons, List.map_nil, List.getD_cons_zero, List.getD_cons_succ, List.set_cons_zero, List.set_cons_succ, List.replicate_succ, List.replicate_zero, List.cons_append, List.nil_append, true_and, Bool.false_eq_true, ↓reduceIte, Bool.not_false]
    first | exact ⟨_, .same, rfl, rfl⟩ | exact ⟨_, .same, rfl⟩ | exact ⟨_, .same⟩
def O313 : Orc := O312.add 18 (StC KEqT)
theorem s313 : Sound Tryd.prog O313 := s312.addS c18 (by kernel_rfl) (by
  rintro args r st ⟨v, w, a, b, hv, hw, hl, rfl, rfl⟩
  exact ⟨by simp [sf18], t18 _ v w a b st hv hw hl⟩)
end Go.Sh.F
namespace Go.Sh.F
open Go.PathLaw Go.TreeLaw Go.Proofs
def cpF (v : SV) (t : List F) : SV := match v with | .nilS => .nilS | _ => .sl (t.flatMap fC) t.length (.excl 2)
theorem cpF_not {v : SV} {t : List F} (h : v ≠ .nilS) : cpF v t = .sl (t.flatMap fC) t.length (.excl 2) := by cases v <;> first | rfl | exact absurd rfl h
theorem nil_orT (v : SV) : v = .nilS ∨ v ≠ .nilS := by cases v <;> simp
theorem ro_fC (t : List F) : (t.flatMap fC).map ro = t.flatMap fC := by
  induction t with
  | nil => rfl
  | cons f t ih => rw [List.flatMap_cons, List.map_append, ih]; rfl
theorem len_fC (t : List F) : (t.flatMap fC).length = t.length * 2 := flat_len (fC_len t)
theorem app_fC {st s : List Ob} {v : SV} {t : List F} (hv : RowF s v t) (x : List Ob) (hst : st = s ++ x) {xs : List SV} {n : Nat} (hx : xs.length = n * 2) (hl : n + t.length ≤ 536870912) {z : List SV} (hn : v ≠ .nilS) : ev st (.app 2 32 z) [.sl xs n (.excl 2), v] = some (.sl (xs ++ t.flatMap fC) (n + t.length) (.excl 2), [(0, .undef)], st) := by
  subst hst
  obtain ⟨h1, ⟨rfl, _⟩ | ⟨fl, h2, rfl⟩ | ⟨id, off, c, rfl, h2, h3, h4⟩⟩ := hv
  · exact absurd rfl hn
  · rw [app_excl hx h1 (by omega) (by omega)]
  · rw [ev_appO, List.getElem?_append_left (List.getElem?_eq_some_iff.1 h2).1, h2, apO_some, if_pos h3, h4, ro_fC, app_excl hx h1 (by omega) (by omega)]
theorem eqN_rowT {st s : List Ob} {v : SV} {es n : Nat} {cs : List SV} (hv : RowAt st v es n cs) (hn : v ≠ .nilS) : ev s (.eqN .s false) [v, .nilS] = some (.bool false, [], s) := by
  obtain ⟨h1, ⟨rfl, _⟩ | ⟨fl, rfl | rfl, rfl⟩ | ⟨id, off, c, rfl, h2, h3, h4⟩⟩ := hv
  · exact absurd rfl hn
  · rfl
  · rfl
  · rfl
theorem t37 (O : Orc) (v : SV) (t : List F) (st : List Ob) (hv : RowF st v t) (hl : t.length ≤ 268435456) : swpF O sf37 [v] st (fun r st' => r = cpF v t ∧ st' = st) := by
  rcases nil_orT v with rfl | hn
  · show swpF O sf37 [.nilS] st (fun r st' => r = .nilS ∧ st' = st)
    simp (maxSteps := 2000000) (disch := first | omega | (simp only [List.length_append, List.length_cons, List.length_nil, List.length_map] <;> omega)) only [sf37, List.set_cons_zero, List.set_cons_succ, flg_nilS, swp_seq, swp_reg, swp_ret, swp_cond, seqK_n, seqK_r, condK_t, evK_some, appK_eq, srun_nil, srun_cons, fin_ret, swpF_eq, sk_mv, sk_give, sk_eqN, get_mk, raw_slot, raw_lit, put_some, wb_nil, ev_mv, ev_give, ev_eqNs1, ro_nilS, List.map_cons, List.map_nil, List.getD_cons_zero, List.getD_cons_succ, List.set_cons_zero, List.set_cons_succ, List.length_cons, List.length_nil, List.replicate_succ, List.replicate_zero, List.cons_append, List.nil_append, Nat.reduceSub, true_and, Bool.false_eq_true, ↓reduceIte, Nat.zero_add]
    first | exact ⟨_, .same, rfl, rfl⟩ | exact ⟨_, .same, rfl⟩ | exact ⟨_, .same⟩
  · rw [cpF_not hn]
    obtain ⟨q1, q2, q3, q4, q6, q7⟩ := RowAt.facts hv
    have ha := fun (z : List SV) => app_fC (st := st) hv [] (by simp) (xs := []) (n := 0) rfl (by omega) (z := z) hn
    simp only [List.nil_append, Nat.zero_add] at ha
    simp (maxSteps := 2000000) (disch := first | omega | (simp only [List.length_append, List.length_cons, List.length_nil, List.length_map] <;> omega)) only [sf37, eqN_rowT hv hn, ha, q1, List.set_cons_zero, List.set_cons_succ, flg_nilS, flg_excl, swp_seq, swp_reg, swp_skip, swp_ret, swp_cond, seqK_n, condK_f, evK_some, appK_eq, srun_nil, srun_cons, fin_ret, swpF_eq, sk_mv, sk_give, sk_eqN, sk_bsl, sk_app, get_mk, raw_slot, raw_lit, put_some, wb_nil, wb_cons, ev_mv, ev_give, ev_bsl, ro_nilS, ro_excl, pubs, pubsFrom, List.map_cons, List.map_nil, List.getD_cons_zero, List.getD_cons_succ, List.set_cons_zero, List.set_cons_succ, List.getElem?_cons_zero, List.length_cons, List.length_nil, List.replicate_succ, List.replicate_zero, List.cons_append, List.nil_append, Nat.reduceSub, true_and, and_true, Bool.false_eq_true, Option.map_some, ↓reduceIte, List.all_nil, List.zip_nil_right, rep, fillV, List.flatten_nil, Nat.zero_add]
    first | exact ⟨_, .same, rfl, rfl⟩ | exact ⟨_, .same, rfl⟩ | exact ⟨_, .same⟩
def KCloneT : List Ob → List SV → SV → Prop := fun st args r => ∃ (v : SV) (t : List F), RowF st v t ∧ t.length ≤ 268435456 ∧ args = [v] ∧ r = cpF v t
def O314 : Orc := O313.add 37 (StC KCloneT)
theorem s314 : Sound Tryd.prog O314 := s313.addS c37 (by kernel_rfl) (by
  rintro args r st ⟨v, t, hv, hl, rfl, rfl⟩
  exact ⟨by simp [sf37], t37 _ v t st hv hl⟩)
/-- How many bytes. -/
def szT : List F → Nat
  | [] => 0
  | f :: r => f.2.length + szT r
theorem szT_snoc : ∀ (l : List F) (p : F), szT (l ++ [p]) = szT l + p.2.length
  | [], p => by simp [szT]
  | q :: r, p => by rw [List.cons_append, szT, szT, szT_snoc r]; omega
theorem szT_le : ∀ (l : List F) (n : Nat), (∀ f ∈ l, f.2.length ≤ n) → szT l ≤ l.length * n
  | [], n, _ => by simp [szT]
  | f :: r, n, h => by
    have h1 := h f List.mem_cons_self
    have h2 := szT_le r n (fun g hg => h g (List.mem_cons_of_mem _ hg))
    rw [szT, List.length_cons, Nat.add_mul]; omega
set_option maxHeartbeats 4000000 in
theorem t25 (O : Orc) (v : SV) (t : List F) (st : List Ob) (hv : RowF st v t) (hl : t.length ≤ 268435456) (hs : ∀ f ∈ t, f.2.length ≤ 268435456) : swpF O sf25 [v] st (fun r st' => r = .int .i64 (szT t) ∧ st' = st) := by
  have ib := fun i (hi : i < t.length) => RowAt.idxB hv hi .i64
  have f1 := fun i (hi : i < t.length) => RowF.f1 hv hi []
  have fl1 := fun i (hi : i < t.length) (s : List Ob) => RowAt.fld hv (by omega) (i * 2) 1 s
  simp only [List.append_nil] at f1
  obtain ⟨q1, q2, q3, q4, q6, q7⟩ := RowAt.facts hv
  have q5 := RowAt.lenL hv
  simp (maxSteps := 2000000) (disch := first | omega | (simp only [List.length_append, List.length_cons, List.length_nil, List.length_map] <;> omega)) only [sf25, List.set_cons_zero, List.set_cons_succ, flg_int, exc_int, swp_seq, swp_reg, swp_block, seqK_n, evK_some, appK_eq, srun_nil, srun_cons, swpF_eq, sk_take, sk_give, raw_lit, put_some, wb_nil, ev_take, ev_give, ro_int, got_int, List.map_cons, List.map_nil, List.set_cons_zero, List.set_cons_succ, List.length_cons, List.length_nil, List.replicate_succ, List.replicate_zero, List.cons_append, List.nil_append, Nat.reduceSub, Bool.false_eq_true, ↓reduceIte, Nat.zero_add]
  refine swp_lp (fun S => ∃ (i : Nat) (b : Int), i ≤ t.length ∧ b = ((szT (t.take i) : Nat) : Int) ∧ S = ⟨[v, .undef, .undef, .int .i64 b, .int .i64 i] ++ List.replicate 15 .undef, st⟩)
    (fun S => match S.get 4 with | .int _ k => ((t.length : Int) - k).toNat | _ => 0)
    ⟨[v, .undef, .undef, .int .i64 0, .int .i64 0] ++ List.replicate 15 .undef, st⟩ ?_ ⟨0, 0, Nat.zero_le _, rfl, rfl⟩ ?_
  · refine Forget.of ?_
    repeat first | exact fg_e | refine fg_d ?_ | refine fg_k rfl ?_
  rintro S ⟨i, b, hi, hb, rfl⟩
  by_cases him : i = t.length
  · have hd : decide ((i : Int) < (t.length : Int)) = false := by rw [decide_eq_false_iff_not]; omega
    rw [him, List.take_length] at hb
    subst hb
    simp (maxSteps := 2000000) (disch := first | omega | (simp only [List.length_append, List.length_cons, List.length_nil, List.length_map] <;> omega)) only [hd, q1, q5, List.set_cons_zero, List.set_cons_succ, lpK_e, flg_int, swp_seq, swp_reg, swp_ret, swp_exit, swp_cond, seqK_n, seqK_e, blkK_e, condK_f, evK_some, appK_eq, srun_nil, srun_cons, fin_ret, sk_mv, sk_give, sk_bin, sk_lenL, get_mk, raw_slot, put_some, wb_nil, ev_mv, ev_give, bin_lss, ro_int, List.map_cons, List.map_nil, List.getD_cons_zero, List.getD_cons_succ, List.set_cons_zero, List.set_cons_succ, List.replicate_succ, List.replicate_zero, List.cons_append, List.nil_append, true_and, Bool.false_eq_true, ↓reduceIte]
    first | exact ⟨_, .same, rfl, rfl⟩ | exact ⟨_, .same, rfl⟩ | exact ⟨_, .same⟩
  have hd : decide ((i : Int) < (t.length : Int)) = true := by rw [decide_eq_true_eq]; omega
  have hil : i < t.length := by omega
  have fin := fin_ltT hil
  have b1 := ib i hil
  have b2 := f1 i hil
  have b3 := fl1 i hil
  have hsn := szT_snoc (t.take i) t[i]
  rw [List.take_append_getElem hil] at hsn
  have h1 := hs _ (List.getElem_mem hil)
  have h2 : szT (t.take i) ≤ 268435456 * 268435456 := by
    have := szT_le (t.take i) 268435456 (fun f hf => hs f (List.mem_of_mem_take hf))
    rw [List.length_take] at this
    exact Nat.le_trans this (Nat.mul_le_mul_right _ (by omega))
  simp (maxSteps := 2000000) (disch := first | omega | (simp only [List.length_append, List.length_cons, List.length_nil, List.length_map] <;> omega)) only [hd, b1, b2, b3, q1, q5, List.set_cons_zero, List.set_cons_succ, lpK_n, flg_int, sk_idxB, swp_seq, swp_reg, swp_skip, swp_block, swp_cond, seqK_n, blkK_n, condK_t, evK_some, appK_eq, srun_nil, srun_cons, sk_mv, sk_give, sk_bin, sk_fld, sk_load, sk_lenS, sk_lenL, get_mk, raw_slot, raw_lit, put_some, wb_nil, ev_mv, ev_give, ev_lenS, bin_add, bin_lss, ro_int, List.map_cons, List.map_nil, List.getD_cons_zero, List.getD_cons_succ, List.set_cons_zero, List.set_cons_succ, List.replicate_succ, List.replicate_zero, List.cons_append, List.nil_append, Bool.false_eq_true, ↓reduceIte, wrap_i64]
  refine ⟨_, ?_, ⟨i + 1, b + (t[i].2.length : Int), by omega, by omega, rfl⟩, by exact fin⟩
  refine Forget.of ?_
  repeat first | exact fg_e | refine fg_d ?_ | refine fg_k rfl ?_
def KSizeT : List Ob → List SV → SV → Prop := fun st args r => ∃ (v : SV) (t : List F), RowF st v t ∧ t.length ≤ 268435456 ∧ (∀ f ∈ t, f.2.length ≤ 268435456) ∧ okSt st ∧ args = [v] ∧ r = .int .i64 (szT t)
def O315 : Orc := O314.add 25 (StC KSizeT)
theorem s315 : Sound Tryd.prog O315 := s314.addS c25 (by kernel_rfl) (by
  rintro args r st ⟨v, t, hv, hl, hs, ho, rfl, rfl⟩
  exact ⟨by simp [sf25], t25 _ v t st hv hl hs⟩)
set_option maxHeartbeats 4000000 in
theorem t24 (O : Orc) (v : SV) (t : List F) (st : List Ob) (hv : RowF st v t) (hl : t.length ≤ 268435456) (hs : ∀ f ∈ t, f.2.length ≤ 268435456) (ho : okSt st) : swpF O sf24 [v] st (fun r st' => r = .int .i64 (szT t) ∧ st' = st) := by
  have ib := fun i (hi : i < t.length) => RowAt.idxB hv hi .i64
  have ld := fun i (hi : i < t.length) => RowF.ld' hv hi
  obtain ⟨q1, q2, q3, q4, q6, q7⟩ := RowAt.facts hv
  have q5 := RowAt.lenL hv
  have hidv := RowF.idOk hv
  simp only [fC] at ld
  simp (maxSteps := 2000000) (disch := first | omega | (simp only [List.length_append, List.length_cons, List.length_nil, List.length_map] <;> omega)) only [sf24, q1, q5, List.set_cons_zero, List.set_cons_succ, flg_int, exc_int, swp_seq, swp_reg, swp_block, seqK_n, evK_some, appK_eq, srun_nil, srun_cons, swpF_eq, sk_mv, sk_take, sk_give, sk_lenL, get_mk, raw_slot, raw_lit, put_some, wb_nil, ev_mv, ev_take, ev_give, ro_int, got_int, List.map_cons, List.map_nil, List.getD_cons_zero, List.set_cons_zero, List.set_cons_succ, List.length_cons, List.length_nil, List.replicate_succ, List.replicate_zero, List.cons_append, List.nil_append, Nat.reduceSub, Bool.false_eq_true, ↓reduceIte, Nat.zero_add]
  refine swp_lp (fun S => ∃ (i : Nat) (b : Int), i ≤ t.length ∧ b = ((szT (t.take i) : Nat) : Int) ∧ S = ⟨[.undef, .undef, .undef, .int .i64 b, .undef, .undef, v, .int .i64 t.length, .int .i64 i] ++ List.replicate 10 .undef, st⟩)
    (fun S => match S.get 8 with | .int _ k => ((t.length : Int) - k).toNat | _ => 0)
    ⟨[.undef, .undef, .undef, .int .i64 0, .undef, .undef, v, .int .i64 t.length, .int .i64 0] ++ List.replicate 10 .undef, st⟩ ?_ ⟨0, 0, Nat.zero_le _, rfl, rfl⟩ ?_
  · refine Forget.of ?_
    repeat first | exact fg_e | refine fg_d ?_ | refine fg_k rfl ?_
  rintro S ⟨i, b, hi, hb, rfl⟩
  by_cases him : i = t.length
  · have hd : decide ((i : Int) < (t.length : Int)) = false := by rw [decide_eq_false_iff_not]; omega
    rw [him, List.take_length] at hb
    subst hb
    simp (maxSteps := 2000000) (disch := first | omega | (simp only [List.length_append, List.length_cons, List.length_nil, List.length_map] <;> omega)) only [hd, List.set_cons_zero, List.set_cons_succ, lpK_e, flg_int, swp_seq, swp_reg, swp_ret, swp_exit, swp_cond, seqK_n, seqK_e, blkK_e, condK_f, evK_some, appK_eq, srun_nil, srun_cons, fin_ret, sk_mv, sk_give, sk_bin, get_mk, raw_slot, put_some, wb_nil, ev_mv, ev_give, bin_lss, ro_int, List.map_cons, List.map_nil, List.getD_cons_zero, List.getD_cons_succ, List.set_cons_zero, List.set_cons_succ, List.replicate_succ, List.replicate_zero, List.cons_append, List.nil_append, true_and, Bool.false_eq_true, ↓reduceIte]
    first | exact ⟨_, .same, rfl, rfl⟩ | exact ⟨_, .same, rfl⟩ | exact ⟨_, .same⟩
  have hd : decide ((i : Int) < (t.length : Int)) = true := by rw [decide_eq_true_eq]; omega
  have hil : i < t.length := by omega
  have fin := fin_ltT hil
  have b1 := ib i hil
  have b2 := ld i hil
  have hsn := szT_snoc (t.take i) t[i]
  rw [List.take_append_getElem hil] at hsn
  have h1 := hs _ (List.getElem_mem hil)
  have h2 : szT (t.take i) ≤ 268435456 * 268435456 := by
    have := szT_le (t.take i) 268435456 (fun f hf => hs f (List.mem_of_mem_take hf))
    rw [List.length_take] at this
    exact Nat.le_trans this (Nat.mul_le_mul_right _ (by omega))
  have sSt := st_fC (st := st) (c := [.str [], .str []]) (f := t[i]) rfl
  simp (maxSteps := 2000000) (disch := first | omega | (simp only [List.length_append, List.length_cons, List.length_nil, List.length_map] <;> omega)) only [hd, b1, b2, sSt, getA0, List.set_cons_zero, List.set_cons_succ, lpK_n, flg_int, sk_idxB, swp_seq, swp_reg, swp_skip, swp_block, swp_cond, seqK_n, blkK_n, condK_t, evK_some, appK_eq, srun_nil, srun_cons, sk_mv, sk_give, sk_bin, sk_fld, sk_load, sk_store, sk_lenS, sk_alloc, get_mk, raw_slot, raw_lit, put_some, put_none, wb_nil, ev_mv, ev_give, ev_fld, ev_lenS, bin_add, bin_lss, ev_alloc, ev_ldP, ldP_some, ro_int, ro_str, List.map_cons, List.map_nil, List.getD_cons_zero, List.getD_cons_succ, List.set_cons_zero, List.set_cons_succ, List.getElem?_cons_zero, List.getElem?_cons_succ, List.replicate_succ, List.replicate_zero, List.cons_append, List.nil_append, Bool.false_eq_true, Option.map_some, ↓reduceIte, Nat.zero_add, wrap_i64]
  refine ⟨_, Forget.cut0 ?_ (Nat.le_refl _) ?_ ho, ⟨i + 1, b + (t[i].2.length : Int), by omega, by omega, rfl⟩, by exact fin⟩
  · repeat first | exact fg_e | refine fg_d ?_ | refine fg_k rfl ?_
  · simp [idOks, idOk, hidv]
def O316 : Orc := O315.add 24 (StC KSizeT)
theorem s316 : Sound Tryd.prog O316 := s315.addS c24 (by kernel_rfl) (by
  rintro args r st ⟨v, t, hv, hl, hs, ho, rfl, rfl⟩
  exact ⟨by simp [sf24], t24 _ v t st hv hl hs ho⟩)
end Go.Sh.F
namespace Go.Sh.F
open Go.PathLaw Go.TreeLaw Go.Proofs
def fewT (t : List F) : Bool := decide (t.length ≤ 40) && t.all fun f => decide (f.1.length ≤ 100) && decide (f.2.length ≤ 1000)
set_option maxHeartbeats 8000000 in
theorem t11 (O : Orc) (v : SV) (t : List F) (st : List Ob) (hv : RowF st v t) (hl : t.length ≤ 268435456) : swpF O sf11 [v] st (fun r st' => r = .bool (fewT t) ∧ st' = st) := by
  have ib := fun i (hi : i < t.length) => RowAt.idxB hv hi .i64
  have f0 := fun i (hi : i < t.length) => RowF.f0 hv hi []
  have fl0 := fun i (hi : i < t.length) (s : List Ob) => RowAt.fld hv (by omega) (i * 2) 0 s
  have f1 := fun i (hi : i < t.length) => RowF.f1 hv hi []
  have fl1 := fun i (hi : i < t.length) (s : List Ob) => RowAt.fld hv (by omega) (i * 2) 1 s
  simp only [List.append_nil, Nat.add_zero] at f0 f1 fl0
  obtain ⟨q1, q2, q3, q4, q6, q7⟩ := RowAt.facts hv
  have q5 := RowAt.lenL hv
  rcases bf (decide ((40 : Int) < (t.length : Int))) with h40 | h40
  rotate_left
  · have e : fewT t = false := by
      unfold fewT
      have h := of_decide_eq_true h40
      rw [decide_eq_false (by omega), Bool.false_and]
    rw [e]
    simp (maxSteps := 2000000) (disch := first | omega | (simp only [List.length_append, List.length_cons, List.length_nil, List.length_map] <;> omega)) only [sf11, h40, q1, q5, List.set_cons_zero, List.set_cons_succ, flg_bool, swp_seq, swp_reg, swp_ret, swp_cond, seqK_n, seqK_r, condK_t, evK_some, appK_eq, srun_nil, srun_cons, fin_ret, swpF_eq, sk_mv, sk_give, sk_bin, sk_lenL, get_mk, raw_slot, raw_lit, put_some, wb_nil, ev_mv, ev_give, bin_gtr, ro_bool, List.map_cons, List.map_nil, List.getD_cons_zero, List.getD_cons_succ, List.set_cons_zero, List.set_cons_succ, List.length_cons, List.length_nil, List.replicate_succ, List.replicate_zero, List.cons_append, List.nil_append, Nat.reduceSub, true_and, Bool.false_eq_true, ↓reduceIte, Nat.zero_add, gt_iff_lt]
    first | exact ⟨_, .same, rfl, rfl⟩ | exact ⟨_, .same, rfl⟩ | exact ⟨_, .same⟩
  have h40' : t.length ≤ 40 := by have := of_decide_eq_false h40; omega
  simp (maxSteps := 2000000) (disch := first | omega | (simp only [List.length_append, List.length_cons, List.length_nil, List.length_map] <;> omega)) only [sf11, h40, q1, q5, List.set_cons_zero, List.set_cons_succ, flg_bool, exc_int, swp_seq, swp_reg, swp_skip, swp_block, swp_cond, seqK_n, condK_f, evK_some, appK_eq, srun_nil, srun_cons, swpF_eq, sk_mv, sk_take, sk_give, sk_bin, sk_lenL, get_mk, raw_slot, raw_lit, put_some, wb_nil, ev_mv, ev_take, ev_give, bin_gtr, ro_bool, got_int, List.map_cons, List.map_nil, List.getD_cons_zero, List.getD_cons_succ, List.set_cons_zero, List.set_cons_succ, List.length_cons, List.length_nil, List.replicate_succ, List.replicate_zero, List.cons_append, List.nil_append, Nat.reduceSub, Bool.false_eq_true, ↓reduceIte, Nat.zero_add, gt_iff_lt]
  refine swp_lp (fun S => ∃ (i : Nat), i ≤ t.length ∧ (∀ j (h : j < t.length), j < i → t[j].1.length ≤ 100 ∧ t[j].2.length ≤ 1000) ∧ S = ⟨[v, .undef, .undef, .int .i64 i] ++ List.replicate 25 .undef, st⟩)
    (fun S => match S.get 3 with | .int _ k => ((t.length : Int) - k).toNat | _ => 0)
    ⟨[v, .undef, .undef, .int .i64 0] ++ List.replicate 25 .undef, st⟩ ?_ ⟨0, Nat.zero_le _, fun _ _ h => absurd h (Nat.not_lt_zero _), rfl⟩ ?_
  · refine Forget.of ?_
    repeat first | exact fg_e | refine fg_d ?_ | refine fg_k rfl ?_
  rintro S ⟨i, hi, hall, rfl⟩
  by_cases him : i = t.length
  · have hd : decide ((i : Int) < (t.length : Int)) = false := by rw [decide_eq_false_iff_not]; omega
    have e : fewT t = true := by
      unfold fewT
      rw [decide_eq_true h40', Bool.true_and, List.all_eq_true]
      intro f hf
      obtain ⟨j, hj, rfl⟩ := List.getElem_of_mem hf
      obtain ⟨a, b⟩ := hall j hj (by omega)
      simp [a, b]
    rw [e]
    simp (maxSteps := 2000000) (disch := first | omega | (simp only [List.length_append, List.length_cons, List.length_nil, List.length_map] <;> omega)) only [hd, q1, q5, List.set_cons_zero, List.set_cons_succ, lpK_e, flg_bool, swp_seq, swp_reg, swp_ret, swp_exit, swp_cond, seqK_n, seqK_e, blkK_e, condK_f, evK_some, appK_eq, srun_nil, srun_cons, fin_ret, sk_mv, sk_give, sk_bin, sk_lenL, get_mk, raw_slot, raw_lit, put_some, wb_nil, ev_mv, ev_give, bin_lss, ro_int, ro_bool, List.map_cons, List.map_nil, List.getD_cons_zero, List.getD_cons_succ, List.set_cons_zero, List.set_cons_succ, List.replicate_succ, List.replicate_zero, List.cons_append, List.nil_append, true_and, Bool.false_eq_true, ↓reduceIte]
    first | exact ⟨_, .same, rfl, rfl⟩ | exact ⟨_, .same, rfl⟩ | exact ⟨_, .same⟩
  have hd : decide ((i : Int) < (t.length : Int)) = true := by rw [decide_eq_true_eq]; omega
  have hil : i < t.length := by omega
  have fin := fin_ltT hil
  have b1 := ib i hil
  have b2 := f0 i hil
  have b3 := fl0 i hil
  have b4 := f1 i hil
  have b5 := fl1 i hil
  have no : (t[i].1.length ≤ 100 → t[i].2.length ≤ 1000 → False) → fewT t = false := by
    intro h
    rw [Bool.eq_false_iff]; intro hT
    unfold fewT at hT
    rw [Bool.and_eq_true, List.all_eq_true] at hT
    have := hT.2 _ (List.getElem_mem hil)
    simp only [Bool.and_eq_true, decide_eq_true_eq] at this
    exact h this.1 this.2
  rcases bf (decide ((100 : Int) < (t[i].1.length : Int))) with h2 | h2
  rotate_left
  · rw [no (fun a _ => by have := of_decide_eq_true h2; omega)]
    simp (maxSteps := 2000000) (disch := first | omega | (simp only [List.length_append, List.length_cons, List.length_nil, List.length_map] <;> omega)) only [hd, h2, b1, b2, b3, q1, q5, List.set_cons_zero, List.set_cons_succ, lpK_r, flg_bool, sk_idxB, swp_seq, swp_reg, swp_skip, swp_ret, swp_block, swp_cond, seqK_n, seqK_r, blkK_r, condK_t, evK_some, appK_eq, grd_t, srun_nil, srun_cons, stepK_grd, fin_ret, sk_mv, sk_give, sk_pick, sk_bin, sk_fld, sk_load, sk_lenS, sk_lenL, get_mk, raw_slot, raw_lit, put_some, wb_nil, ev_mv, ev_give, ev_pick, ev_lenS, bin_lss, bin_gtr, ro_int, ro_bool, List.map_cons, List.map_nil, List.getD_cons_zero, List.getD_cons_succ, List.set_cons_zero, List.set_cons_succ, List.replicate_succ, List.replicate_zero, List.cons_append, List.nil_append, true_and, Bool.false_eq_true, ↓reduceIte, reduceCtorEq, gt_iff_lt]
    first | exact ⟨_, .same, rfl, rfl⟩ | exact ⟨_, .same, rfl⟩ | exact ⟨_, .same⟩
  rcases bf (decide ((1000 : Int) < (t[i].2.length : Int))) with h3 | h3
  rotate_left
  · rw [no (fun _ a => by have := of_decide_eq_true h3; omega)]
    simp (maxSteps := 2000000) (disch := first | omega | (simp only [List.length_append, List.length_cons, List.length_nil, List.length_map] <;> omega)) only [hd, h2, h3, b1, b2, b3, b4, b5, q1, q2, q3, q5, List.set_cons_zero, List.set_cons_succ, lpK_r, flg_bool, exc_int, sk_idxB, swp_seq, swp_reg, swp_skip, swp_ret, swp_block, swp_cond, seqK_n, seqK_r, blkK_r, condK_t, evK_some, appK_eq, grd_t, srun_nil, srun_cons, stepK_grd, fin_ret, sk_mv, sk_take, sk_give, sk_pick, sk_bin, sk_fld, sk_load, sk_lenS, sk_lenL, get_mk, raw_slot, raw_lit, put_some, wb_nil, ev_mv, ev_take, ev_give, ev_pick, ev_lenS, bin_lss, bin_gtr, ro_int, ro_bool, got_int, List.map_cons, List.map_nil, List.getD_cons_zero, List.getD_cons_succ, List.set_cons_zero, List.set_cons_succ, List.replicate_succ, List.replicate_zero, List.cons_append, List.nil_append, true_and, Bool.false_eq_true, ↓reduceIte, gt_iff_lt]
    first | exact ⟨_, .same, rfl, rfl⟩ | exact ⟨_, .same, rfl⟩ | exact ⟨_, .same⟩
  simp (maxSteps := 2000000) (disch := first | omega | (simp only [List.length_append, List.length_cons, List.length_nil, List.length_map] <;> omega)) only [hd, h2, h3, b1, b2, b3, b4, b5, q1, q2, q3, q5, List.set_cons_zero, List.set_cons_succ, lpK_n, flg_int, exc_int, sk_idxB, swp_seq, swp_reg, swp_skip, swp_block, swp_cond, seqK_n, blkK_n, condK_t, condK_f, evK_some, appK_eq, grd_t, srun_nil, srun_cons, stepK_grd, sk_mv, sk_take, sk_give, sk_pick, sk_bin, sk_fld, sk_load, sk_lenS, sk_lenL, get_mk, raw_slot, raw_lit, put_some, wb_nil, ev_mv, ev_take, ev_give, ev_pick, ev_lenS, bin_add, bin_lss, bin_gtr, ro_int, ro_bool, got_int, List.map_cons, List.map_nil, List.getD_cons_zero, List.getD_cons_succ, List.set_cons_zero, List.set_cons_succ, List.replicate_succ, List.replicate_zero, List.cons_append, List.nil_append, Bool.false_eq_true, ↓reduceIte, gt_iff_lt, wrap_i64]
  refine ⟨_, ?_, ⟨i + 1, by omega, fun j hj hji => ?_, rfl⟩, by exact fin⟩
  · refine Forget.of ?_
    repeat first | exact fg_e | refine fg_d ?_ | refine fg_k rfl ?_
  · by_cases e : j = i
    · subst e
      have a := of_decide_eq_false h2
      have b := of_decide_eq_false h3
      exact ⟨by omega, by omega⟩
    · exact hall j hj (by omega)
def O317 : Orc := O316.add 11 (StC fun st args r => ∃ (v : SV) (t : List F), RowF st v t ∧ t.length ≤ 268435456 ∧ args = [v] ∧ r = .bool (fewT t))
theorem s317 : Sound Tryd.prog O317 := s316.addS c11 (by kernel_rfl) (by
  rintro args r st ⟨v, t, hv, hl, rfl, rfl⟩
  exact ⟨by simp [sf11], t11 _ v t st hv hl⟩)
def findI (p : List UInt8) (t : List F) : Int := match findP p t with | some k => (k : Int) | none => -1
theorem findP_at {p : List UInt8} : ∀ {t : List F} {i : Nat} (hi : i < t.length), (∀ j (h : j < t.length), j < i → t[j].1 ≠ p) → t[i].1 = p → findP p t = some i
  | x :: r, 0, hi, h, hq => by
    simp only [List.getElem_cons_zero] at hq
    unfold findP; rw [if_pos hq]
  | x :: r, i + 1, hi, h, hq => by
    have h0 := h 0 (by simp) (by omega)
    simp only [List.getElem_cons_zero] at h0
    unfold findP
    rw [if_neg h0, findP_at (t := r) (i := i) (by simpa using hi) (fun j hj hji => by have := h (j + 1) (by simpa using hj) (by omega); simpa using this) (by simpa using hq)]
    rfl
theorem findP_not {p : List UInt8} : ∀ {t : List F}, (∀ j (h : j < t.length), t[j].1 ≠ p) → findP p t = none
  | [], _ => rfl
  | x :: r, h => by
    have h0 := h 0 (by simp)
    simp only [List.getElem_cons_zero] at h0
    unfold findP
    rw [if_neg h0, findP_not (t := r) (fun j hj => by have := h (j + 1) (by simpa using hj); simpa using this)]
    rfl
set_option maxHeartbeats 4000000 in
theorem t41 (O : Orc) (v : SV) (t : List F) (p : List UInt8) (st : List Ob) (hv : RowF st v t) (hl : t.length ≤ 268435456) : swpF O sf41 [v, .str p] st (fun r st' => r = .int .i64 (findI p t) ∧ st' = st) := by
  have ib := fun i (hi : i < t.length) => RowAt.idxB hv hi .i64
  have f0 := fun i (hi : i < t.length) => RowF.f0 hv hi []
  have fl0 := fun i (hi : i < t.length) (s : List Ob) => RowAt.fld hv (by omega) (i * 2) 0 s
  simp only [List.append_nil, Nat.add_zero] at f0 fl0
  obtain ⟨q1, q2, q3, q4, q6, q7⟩ := RowAt.facts hv
  have q5 := RowAt.lenL hv
  simp (maxSteps := 2000000) (disch := first | omega | (simp only [List.length_append, List.length_cons, List.length_nil, List.length_map] <;> omega)) only [sf41, List.set_cons_zero, List.set_cons_succ, flg_int, exc_int, swp_seq, swp_reg, swp_block, seqK_n, evK_some, appK_eq, srun_nil, srun_cons, swpF_eq, sk_take, sk_give, raw_lit, put_some, wb_nil, ev_take, ev_give, ro_int, got_int, List.map_cons, List.map_nil, List.set_cons_zero, List.set_cons_succ, List.length_cons, List.length_nil, List.replicate_succ, List.replicate_zero, List.cons_append, List.nil_append, Nat.reduceAdd, Nat.reduceSub, Bool.false_eq_true, ↓reduceIte, Nat.zero_add, Int.reduceNeg]
  refine swp_lp (fun S => ∃ (i : Nat), i ≤ t.length ∧ (∀ j (h : j < t.length), j < i → t[j].1 ≠ p) ∧ S = ⟨[v, .str p, .undef, .undef, .undef, .int .i64 i] ++ List.replicate 14 .undef, st⟩)
    (fun S => match S.get 5 with | .int _ k => ((t.length : Int) - k).toNat | _ => 0)
    ⟨[v, .str p, .undef, .undef, .undef, .int .i64 0] ++ List.replicate 14 .undef, st⟩ ?_ ⟨0, Nat.zero_le _, fun _ _ h => absurd h (Nat.not_lt_zero _), rfl⟩ ?_
  · refine Forget.of ?_
    repeat first | exact fg_e | refine fg_d ?_ | refine fg_k rfl ?_
  rintro S ⟨i, hi, hall, rfl⟩
  by_cases him : i = t.length
  · have hd : decide ((i : Int) < (t.length : Int)) = false := by rw [decide_eq_false_iff_not]; omega
    have e : findI p t = -1 := by unfold findI; rw [findP_not (fun j hj => hall j hj (by omega))]
    rw [e]
    simp (maxSteps := 2000000) (disch := first | omega | (simp only [List.length_append, List.length_cons, List.length_nil, List.length_map] <;> omega)) only [hd, q1, q5, List.set_cons_zero, List.set_cons_succ, lpK_e, flg_int, swp_seq, swp_reg, swp_ret, swp_exit, swp_cond, seqK_n, seqK_e, blkK_e, condK_f, evK_some, appK_eq, srun_nil, srun_cons, fin_ret, sk_mv, sk_give, sk_bin, sk_lenL, get_mk, raw_slot, raw_lit, put_some, wb_nil, ev_mv, ev_give, bin_lss, ro_int, List.map_cons, List.map_nil, List.getD_cons_zero, List.getD_cons_succ, List.set_cons_zero, List.set_cons_succ, List.replicate_succ, List.replicate_zero, List.cons_append, List.nil_append, true_and, Bool.false_eq_true, ↓reduceIte, Int.reduceNeg, ne_eq]
    first | exact ⟨_, .same, rfl, rfl⟩ | exact ⟨_, .same, rfl⟩ | exact ⟨_, .same⟩
  have hd : decide ((i : Int) < (t.length : Int)) = true := by rw [decide_eq_true_eq]; omega
  have hil : i < t.length := by omega
  have fin := fin_ltT hil
  have b1 := ib i hil
  have b2 := f0 i hil
  have b3 := fl0 i hil
  by_cases he : t[i].1 = p
  · have he2 : (t[i].1 == p) = true := by rw [beq_iff_eq]; exact he
    have e : findI p t = (i : Int) := by unfold findI; rw [findP_at hil hall he]
    rw [e]
    simp (maxSteps := 2000000) (disch := first | omega | (simp only [List.length_append, List.length_cons, List.length_nil, List.length_map] <;> omega)) only [hd, b1, b2, b3, he2, q1, q5, List.set_cons_zero, List.set_cons_succ, lpK_r, flg_int, sk_idxB, swp_seq, swp_reg, swp_skip, swp_ret, swp_block, swp_cond, seqK_n, seqK_r, blkK_r, condK_t, evK_some, appK_eq, srun_nil, srun_cons, fin_ret, sk_mv, sk_give, sk_bin, sk_fld, sk_load, sk_lenL, get_mk, raw_slot, put_some, wb_nil, ev_mv, ev_give, bin_lss, bin_eqlS, ro_int, ro_str, List.map_cons, List.map_nil, List.getD_cons_zero, List.getD_cons_succ, List.set_cons_zero, List.set_cons_succ, List.replicate_succ, List.replicate_zero, List.cons_append, List.nil_append, true_and, Bool.false_eq_true, ↓reduceIte, Int.reduceNeg, ne_eq]
    first | exact ⟨_, .same, rfl, rfl⟩ | exact ⟨_, .same, rfl⟩ | exact ⟨_, .same⟩
  · have he2 : (t[i].1 == p) = false := by rw [beq_eq_false_iff_ne]; exact he
    simp (maxSteps := 2000000) (disch := first | omega | (simp only [List.length_append, List.length_cons, List.length_nil, List.length_map] <;> omega)) only [hd, b1, b2, b3, he2, q1, q5, List.set_cons_zero, List.set_cons_succ, lpK_n, flg_int, sk_idxB, swp_seq, swp_reg, swp_skip, swp_block, swp_cond, seqK_n, blkK_n, condK_t, condK_f, evK_some, appK_eq, srun_nil, srun_cons, sk_mv, sk_give, sk_bin, sk_fld, sk_load, sk_lenL, get_mk, raw_slot, raw_lit, put_some, wb_nil, ev_mv, ev_give, bin_add, bin_lss, bin_eqlS, ro_int, ro_str, List.map_cons, List.map_nil, List.getD_cons_zero, List.getD_cons_succ, List.set_cons_zero, List.set_cons_succ, List.replicate_succ, List.replicate_zero, List.cons_append, List.nil_append, Bool.false_eq_true, ↓reduceIte, Int.reduceNeg, wrap_i64, ne_eq]
    refine ⟨_, ?_, ⟨i + 1, by omega, fun j hj hji => ?_, rfl⟩, by exact fin⟩
    · refine Forget.of ?_
      repeat first | exact fg_e | refine fg_d ?_ | refine fg_k rfl ?_
    · by_cases e : j = i
      · subst e; exact he
      · exact hall j hj (by omega)
def O318 : Orc := O317.add 41 (StC fun st args r => ∃ (v : SV) (t : List F) (p : List UInt8), RowF st v t ∧ t.length ≤ 268435456 ∧ args = [v, .str p] ∧ r = .int .i64 (findI p t))
theorem s318 : Sound Tryd.prog O318 := s317.addS c41 (by kernel_rfl) (by
  rintro args r st ⟨v, t, p, hv, hl, rfl, rfl⟩
  exact ⟨by simp [sf41], t41 _ v t p st hv hl⟩)
theorem u39 {a : List UInt8} (ha : sm a) (s : List Ob) : O318 39 [.str a] s (.bool (rightB a)) s := (by repeat first | exact Or.inr ⟨rfl, rfl, a, ha, rfl, rfl⟩ | refine Or.inl ?_)
theorem u40 {a b : List UInt8} (ha : sm a) (hb : sm b) (s : List Ob) : O318 40 [.str a, .str b] s (.bool (underB a b)) s := (by repeat first | exact Or.inr ⟨rfl, rfl, a, b, ha, hb, rfl, rfl⟩ | refine Or.inl ?_)
end Go.Sh.F
namespace Go.Sh.F
open Go.PathLaw Go.TreeLaw Go.Proofs
set_option maxHeartbeats 16000000 in
theorem t20 (v : SV) (t : List F) (st : List Ob) (hv : RowF st v t) (hs : smT t) : swpF O318 sf20 [v] st (fun r st' => r = .bool (rightT t) ∧ st' = st) := by
  have ib := fun i (hi : i < t.length) => RowAt.idxB hv hi .i64
  have ia := fun i (hi : i < t.length) => RowAt.idxA hv hi .i64
  have f0 := fun i (hi : i < t.length) => RowF.f0 hv hi []
  have fl0 := fun i (hi : i < t.length) (s : List Ob) => RowAt.fld hv (by omega) (i * 2) 0 s
  have f1 := fun i (hi : i < t.length) => RowF.f1 hv hi []
  have fl1 := fun i (hi : i < t.length) (s : List Ob) => RowAt.fld hv (by omega) (i * 2) 1 s
  simp only [List.append_nil, Nat.add_zero] at f0 f1 fl0
  obtain ⟨q1, q2, q3, q4, q6, q7⟩ := RowAt.facts hv
  have q5 := RowAt.lenL hv
  have hbl := hs.1
  have hR := right_doc t
  rcases bf (decide ((16 : Int) < (t.length : Int))) with h16 | h16
  rotate_left
  · have e : rightT t = false := by
      rw [Bool.eq_false_iff]; intro h
      have := (hR.1 h).1
      have h16' := of_decide_eq_true h16
      omega
    rw [e]
    simp (maxSteps := 2000000) (disch := first | omega | (simp only [List.length_append, List.length_cons, List.length_nil, List.length_map] <;> omega)) only [sf20, h16, q1, q5, List.set_cons_zero, List.set_cons_succ, flg_bool, swp_seq, swp_reg, swp_ret, swp_cond, seqK_n, seqK_r, condK_t, evK_some, appK_eq, srun_nil, srun_cons, fin_ret, swpF_eq, sk_mv, sk_give, sk_bin, sk_lenL, get_mk, raw_slot, raw_lit, put_some, wb_nil, ev_mv, ev_give, bin_gtr, ro_bool, List.map_cons, List.map_nil, List.getD_cons_zero, List.getD_cons_succ, List.set_cons_zero, List.set_cons_succ, List.length_cons, List.length_nil, List.replicate_succ, List.replicate_zero, List.cons_append, List.nil_append, Nat.reduceSub, true_and, Bool.false_eq_true, ↓reduceIte, Nat.zero_add, gt_iff_lt]
    first | exact ⟨_, .same, rfl, rfl⟩ | exact ⟨_, .same, rfl⟩ | exact ⟨_, .same⟩
  have h16' : t.length ≤ 16 := by have := of_decide_eq_false h16; omega
  simp (maxSteps := 2000000) (disch := first | omega | (simp only [List.length_append, List.length_cons, List.length_nil, List.length_map] <;> omega)) only [sf20, h16, q1, q5, List.set_cons_zero, List.set_cons_succ, flg_bool, exc_int, swp_seq, swp_reg, swp_skip, swp_block, swp_cond, seqK_n, condK_f, evK_some, appK_eq, srun_nil, srun_cons, swpF_eq, sk_mv, sk_take, sk_give, sk_bin, sk_lenL, get_mk, raw_slot, raw_lit, put_some, wb_nil, ev_mv, ev_take, ev_give, bin_gtr, ro_bool, got_int, List.map_cons, List.map_nil, List.getD_cons_zero, List.getD_cons_succ, List.set_cons_zero, List.set_cons_succ, List.length_cons, List.length_nil, List.replicate_succ, List.replicate_zero, List.cons_append, List.nil_append, Nat.reduceSub, Bool.false_eq_true, ↓reduceIte, Nat.zero_add, gt_iff_lt]
  refine swp_lp (fun S => ∃ (i : Nat), i ≤ t.length ∧ (∀ j (h : j < t.length), j < i → rightB t[j].1 = true ∧ t[j].2.length ≤ 600 ∧ (0 < j → lt (t[j - 1]'(by omega)).1 t[j].1 = true) ∧ ∀ k (hk : k < j), underB t[j].1 t[k].1 = false) ∧ S = ⟨[v, .undef, .undef, .int .i64 i] ++ List.replicate 62 .undef, st⟩)
    (fun S => match S.get 3 with | .int _ k => ((t.length : Int) - k).toNat | _ => 0)
    ⟨[v, .undef, .undef, .int .i64 0] ++ List.replicate 62 .undef, st⟩ ?_ ⟨0, Nat.zero_le _, fun _ _ h => absurd h (Nat.not_lt_zero _), rfl⟩ ?_
  · refine Forget.of ?_
    repeat first | exact fg_e | refine fg_d ?_ | refine fg_k rfl ?_
  rintro S ⟨i, hi, hall, rfl⟩
  by_cases him : i = t.length
  · have hd : decide ((i : Int) < (t.length : Int)) = false := by rw [decide_eq_false_iff_not]; omega
    have e : rightT t = true := hR.2 ⟨h16', fun j hj => hall j hj (by omega)⟩
    rw [e]
    simp (maxSteps := 2000000) (disch := first | omega | (simp only [List.length_append, List.length_cons, List.length_nil, List.length_map] <;> omega)) only [hd, q1, q5, List.set_cons_zero, List.set_cons_succ, lpK_e, flg_bool, swp_seq, swp_reg, swp_ret, swp_exit, swp_cond, seqK_n, seqK_e, blkK_e, condK_f, evK_some, appK_eq, srun_nil, srun_cons, fin_ret, sk_mv, sk_give, sk_bin, sk_lenL, get_mk, raw_slot, raw_lit, put_some, wb_nil, ev_mv, ev_give, bin_lss, ro_int, ro_bool, List.map_cons, List.map_nil, List.getD_cons_zero, List.getD_cons_succ, List.set_cons_zero, List.set_cons_succ, List.replicate_succ, List.replicate_zero, List.cons_append, List.nil_append, true_and, Bool.false_eq_true, ↓reduceIte]
    first | exact ⟨_, .same, rfl, rfl⟩ | exact ⟨_, .same, rfl⟩ | exact ⟨_, .same⟩
  have hd : decide ((i : Int) < (t.length : Int)) = true := by rw [decide_eq_true_eq]; omega
  have hil : i < t.length := by omega
  have fin := fin_ltT hil
  have no : (rightB t[i].1 = true → t[i].2.length ≤ 600 → (0 < i → lt (t[i - 1]'(by omega)).1 t[i].1 = true) → (∀ k (hk : k < i), underB t[i].1 t[k].1 = false) → False) → rightT t = false := by
    intro h
    rw [Bool.eq_false_iff]; intro hT
    obtain ⟨a1, a2, a3, a4⟩ := (hR.1 hT).2 i hil
    exact h a1 a2 a3 a4
  have b1 := ib i hil
  have b1a := ia i hil
  have b2 := f0 i hil
  have b3 := fl0 i hil
  have b4 := f1 i hil
  have b5 := fl1 i hil
  simp (maxSteps := 2000000) (disch := first | omega | (simp only [List.length_append, List.length_cons, List.length_nil, List.length_map] <;> omega)) only [hd, b1, b2, b3, q1, q5, List.set_cons_zero, List.set_cons_succ, exc_str, sk_idxB, swp_seq, swp_reg, swp_skip, swp_block, swp_cond, seqK_n, condK_t, evK_some, appK_eq, srun_nil, srun_cons, stepK_call, sk_mv, sk_bin, sk_fld, sk_load, sk_lenL, get_mk, raw_slot, put_some, wb_nil, ev_mv, bin_lss, ro_int, got_str, pubs, pubsFrom, List.map_cons, List.map_nil, List.getD_cons_zero, List.getD_cons_succ, List.set_cons_zero, List.set_cons_succ, List.replicate_succ, List.replicate_zero, List.cons_append, List.nil_append, Bool.false_eq_true, ↓reduceIte]
  refine callK_intro (u39 (hs.2 _ (List.getElem_mem hil)).1 _) ?_
  cases h1 : rightB t[i].1 with
  | false =>
    rw [no (fun a _ _ _ => by rw [a] at h1; cases h1)]
    simp (maxSteps := 2000000) (disch := first | omega | (simp only [List.length_append, List.length_cons, List.length_nil, List.length_map] <;> omega)) only [List.set_cons_zero, List.set_cons_succ, lpK_r, flg_bool, grd_s, swp_seq, swp_reg, swp_ret, swp_cond, seqK_n, seqK_r, blkK_r, condK_t, evK_some, appK_eq, appC_eq, grd_t, srun_nil, srun_cons, stepK_grd, fin_ret, sk_mv, sk_give, sk_pick, sk_un, get_mk, raw_slot, raw_lit, put_some, wb_nil, ev_mv, ev_give, ev_pick, ev_not, ro_bool, List.map_cons, List.map_nil, List.getD_cons_zero, List.getD_cons_succ, List.set_cons_zero, List.set_cons_succ, true_and, Bool.false_eq_true, ↓reduceIte, reduceCtorEq, Bool.not_false]
    first | exact ⟨_, .same, rfl, rfl⟩ | exact ⟨_, .same, rfl⟩ | exact ⟨_, .same⟩
  | true =>
  rcases bf (decide ((600 : Int) < (t[i].2.length : Int))) with h2 | h2
  rotate_left
  · rw [no (fun _ a _ _ => by have := of_decide_eq_true h2; omega)]
    simp (maxSteps := 2000000) (disch := first | omega | (simp only [List.length_append, List.length_cons, List.length_nil, List.length_map] <;> omega)) only [h2, b1a, b4, b5, q1, List.set_cons_zero, List.set_cons_succ, lpK_r, flg_bool, grd_s, swp_seq, swp_reg, swp_ret, swp_cond, seqK_n, seqK_r, blkK_r, condK_t, evK_some, appK_eq, appC_eq, grd_t, srun_nil, srun_cons, stepK_grd, fin_ret, sk_mv, sk_give, sk_pick, sk_bin, sk_un, sk_fld, sk_idxA, sk_load, sk_lenS, get_mk, raw_slot, raw_lit, put_some, wb_nil, ev_mv, ev_give, ev_pick, ev_not, ev_lenS, bin_gtr, ro_int, ro_bool, List.map_cons, List.map_nil, List.getD_cons_zero, List.getD_cons_succ, List.set_cons_zero, List.set_cons_succ, true_and, Bool.false_eq_true, ↓reduceIte, reduceCtorEq, Bool.not_true, gt_iff_lt]
    first | exact ⟨_, .same, rfl, rfl⟩ | exact ⟨_, .same, rfl⟩ | exact ⟨_, .same⟩
  have h2' : t[i].2.length ≤ 600 := by have := of_decide_eq_false h2; omega
  by_cases h0 : i = 0
  · subst h0
    have b1z : ∀ s, ev s (.idxA 2) [v, .int .i64 0] = some (adr v (0 * 2), [], s) := b1a
    simp (maxSteps := 2000000) (disch := first | omega | (simp only [List.length_append, List.length_cons, List.length_nil, List.length_map] <;> omega)) only [h2, b1z, b4, b5, q1, List.set_cons_zero, List.set_cons_succ, flg_bool, exc_int, swp_seq, swp_reg, swp_skip, swp_block, swp_cond, seqK_n, condK_f, evK_some, appK_eq, appC_eq, grd_t, srun_nil, srun_cons, stepK_grd, sk_mv, sk_take, sk_give, sk_pick, sk_bin, sk_un, sk_fld, sk_idxA, sk_load, sk_lenS, get_mk, raw_slot, raw_lit, put_some, wb_nil, ev_mv, ev_take, ev_give, ev_pick, ev_not, ev_lenS, bin_gtr, ro_int, ro_bool, got_int, List.map_cons, List.map_nil, List.getD_cons_zero, List.getD_cons_succ, List.set_cons_zero, List.set_cons_succ, Bool.false_eq_true, ↓reduceIte, decide_false, Nat.zero_mul, Nat.zero_add, Bool.not_true, gt_iff_lt, Int.cast_ofNat_Int, Int.reduceLT]
    refine swp_lp (fun S => S = ⟨[v, .undef, .undef, .int .i64 0, .undef, .int .i64 0] ++ List.replicate 60 .undef, st⟩) (fun _ => 0) ⟨[v, .undef, .undef, .int .i64 0, .undef, .int .i64 0] ++ List.replicate 60 .undef, st⟩ ?_ rfl ?_
    · refine Forget.of ?_
      repeat first | exact fg_e | refine fg_d ?_ | refine fg_k rfl ?_
    rintro S rfl
    have hd0 : decide ((0 : Int) < 0) = false := rfl
    simp (maxSteps := 2000000) (disch := first | omega | (simp only [List.length_append, List.length_cons, List.length_nil, List.length_map] <;> omega)) only [List.set_cons_zero, List.set_cons_succ, lpK_n, lpK_e, flg_int, swp_seq, swp_reg, swp_exit, swp_cond, seqK_n, seqK_e, blkK_n, blkK_e, condK_f, evK_some, appK_eq, srun_nil, srun_cons, sk_mv, sk_give, sk_bin, get_mk, raw_slot, raw_lit, put_some, wb_nil, ev_mv, ev_give, bin_add, bin_lss, ro_int, List.map_cons, List.map_nil, List.getD_cons_zero, List.getD_cons_succ, List.set_cons_zero, List.set_cons_succ, List.replicate_succ, List.replicate_zero, List.cons_append, List.nil_append, Bool.false_eq_true, ↓reduceIte, decide_false, Int.reduceLT, Int.reduceAdd, wrap_i64]
    refine ⟨_, ?_, ⟨0 + 1, by omega, fun j hj hji => ?_, rfl⟩, by exact fin⟩
    · refine Forget.of ?_
      repeat first | exact fg_e | refine fg_d ?_ | refine fg_k rfl ?_
    · obtain rfl : j = 0 := by omega
      exact ⟨h1, h2', fun a => absurd a (Nat.lt_irrefl _), fun k hk => absurd hk (Nat.not_lt_zero _)⟩
  have h3 : decide ((0 : Int) < (i : Int)) = true := by rw [decide_eq_true_eq]; omega
  have e1 : IntKind.i64.wrap ((i : Int) - 1) = ((i - 1 : Nat) : Int) := by rw [wrap_i64 (by omega) (by omega)]; omega
  have hi1 : i - 1 < t.length := by omega
  have c1 := ia _ hi1
  have c2 := f0 _ hi1
  have c3 := fl0 _ hi1
  cases h4 : lt t[i - 1].1 t[i].1 with
  | false =>
    rw [no (fun _ _ a _ => by rw [a (by omega)] at h4; cases h4)]
    simp (maxSteps := 2000000) (disch := first | omega | (simp only [List.length_append, List.length_cons, List.length_nil, List.length_map] <;> omega)) only [h2, h3, e1, b1a, b2, b3, b4, b5, c1, c2, c3, q1, leq_strT, h4, Bool.not_false, List.set_cons_zero, List.set_cons_succ, lpK_r, flg_bool, swp_seq, swp_reg, swp_ret, swp_cond, seqK_n, seqK_r, blkK_r, condK_t, evK_some, appK_eq, appC_eq, grd_t, srun_nil, srun_cons, stepK_grd, fin_ret, sk_mv, sk_give, sk_pick, sk_bin, sk_un, sk_fld, sk_idxA, sk_load, sk_lenS, get_mk, raw_slot, raw_lit, put_some, wb_nil, ev_mv, ev_give, ev_pick, ev_not, ev_lenS, bin_sub, bin_gtr, ro_int, ro_bool, List.map_cons, List.map_nil, List.getD_cons_zero, List.getD_cons_succ, List.set_cons_zero, List.set_cons_succ, true_and, Bool.false_eq_true, ↓reduceIte, Bool.not_true, Bool.not_false, gt_iff_lt]
    first | exact ⟨_, .same, rfl, rfl⟩ | exact ⟨_, .same, rfl⟩ | exact ⟨_, .same⟩
  | true =>
    simp (maxSteps := 2000000) (disch := first | omega | (simp only [List.length_append, List.length_cons, List.length_nil, List.length_map] <;> omega)) only [h2, h3, e1, b1a, b2, b3, b4, b5, c1, c2, c3, q1, leq_strT, h4, Bool.not_true, List.set_cons_zero, List.set_cons_succ, flg_bool, exc_int, swp_seq, swp_reg, swp_skip, swp_block, swp_cond, seqK_n, condK_f, evK_some, appK_eq, appC_eq, grd_t, srun_nil, srun_cons, stepK_grd, sk_mv, sk_take, sk_give, sk_pick, sk_bin, sk_un, sk_fld, sk_idxA, sk_load, sk_lenS, get_mk, raw_slot, raw_lit, put_some, wb_nil, ev_mv, ev_take, ev_give, ev_pick, ev_not, ev_lenS, bin_sub, bin_gtr, ro_int, ro_bool, got_int, List.map_cons, List.map_nil, List.getD_cons_zero, List.getD_cons_succ, List.set_cons_zero, List.set_cons_succ, Bool.false_eq_true, ↓reduceIte, Bool.not_true, gt_iff_lt]
    refine swp_lp (fun S => ∃ (k : Nat), k ≤ i ∧ (∀ j (h : j < k) (h' : j < t.length), underB t[i].1 t[j].1 = false) ∧ S = ⟨[v, .undef, .undef, .int .i64 i, .undef, .int .i64 k] ++ List.replicate 60 .undef, st⟩)
      (fun S => match S.get 5 with | .int _ k => ((i : Int) - k).toNat | _ => 0)
      ⟨[v, .undef, .undef, .int .i64 i, .undef, .int .i64 0] ++ List.replicate 60 .undef, st⟩ ?_ ⟨0, Nat.zero_le _, fun _ h => absurd h (Nat.not_lt_zero _), rfl⟩ ?_
    · refine Forget.of ?_
      repeat first | exact fg_e | refine fg_d ?_ | refine fg_k rfl ?_
    rintro S ⟨k, hk, hku, rfl⟩
    by_cases hki : k = i
    · have hd2 : decide ((k : Int) < (i : Int)) = false := by rw [decide_eq_false_iff_not]; omega
      simp (maxSteps := 2000000) (disch := first | omega | (simp only [List.length_append, List.length_cons, List.length_nil, List.length_map] <;> omega)) only [hd2, List.set_cons_zero, List.set_cons_succ, lpK_n, lpK_e, flg_int, swp_seq, swp_reg, swp_exit, swp_cond, seqK_n, seqK_e, blkK_n, blkK_e, condK_f, evK_some, appK_eq, srun_nil, srun_cons, sk_mv, sk_give, sk_bin, get_mk, raw_slot, raw_lit, put_some, wb_nil, ev_mv, ev_give, bin_add, bin_lss, ro_int, List.map_cons, List.map_nil, List.getD_cons_zero, List.getD_cons_succ, List.set_cons_zero, List.set_cons_succ, List.replicate_succ, List.replicate_zero, List.cons_append, List.nil_append, Bool.false_eq_true, ↓reduceIte, wrap_i64]
      refine ⟨_, ?_, ⟨i + 1, by omega, fun j hj hji => ?_, rfl⟩, by exact fin⟩
      · refine Forget.of ?_
        repeat first | exact fg_e | refine fg_d ?_ | refine fg_k rfl ?_
      · by_cases e : j = i
        · subst e; exact ⟨h1, h2', fun _ => h4, fun m hm => hku m (by omega) (by omega)⟩
        · exact hall j hj (by omega)
    · have hd2 : decide ((k : Int) < (i : Int)) = true := by rw [decide_eq_true_eq]; omega
      have hkl : k < t.length := by omega
      have fin2 : ((i : Int) - ((k + 1 : Nat) : Int)).toNat < ((i : Int) - (k : Int)).toNat := by omega
      have d1 := ia _ hkl
      have d2 := f0 _ hkl
      have d3 := fl0 _ hkl
      simp (maxSteps := 2000000) (disch := first | omega | (simp only [List.length_append, List.length_cons, List.length_nil, List.length_map] <;> omega)) only [hd2, b1a, b2, b3, d1, d2, d3, q1, List.set_cons_zero, List.set_cons_succ, stepK_callp, exc_str, swp_seq, swp_reg, swp_skip, swp_block, swp_cond, seqK_n, condK_t, evK_some, appK_eq, appC_eq, srun_nil, srun_cons, sk_mv, sk_bin, sk_fld, sk_idxA, sk_load, get_mk, raw_slot, put_some, wb_nil, ev_mv, bin_lss, ro_int, got_str, pubs, pubsFrom, List.map_cons, List.map_nil, List.getD_cons_zero, List.getD_cons_succ, List.set_cons_zero, List.set_cons_succ, List.replicate_succ, List.replicate_zero, List.cons_append, List.nil_append, Bool.false_eq_true, ↓reduceIte]
      refine callpK_intro (fun st2 => u40 (hs.2 _ (List.getElem_mem hil)).1 (hs.2 _ (List.getElem_mem hkl)).1 st2) ?_
      cases hu : underB t[i].1 t[k].1 with
      | true =>
        rw [no (fun _ _ _ a => by rw [a k (by omega)] at hu; cases hu)]
        simp (maxSteps := 2000000) (disch := first | omega | (simp only [List.length_append, List.length_cons, List.length_nil, List.length_map] <;> omega)) only [List.set_cons_zero, List.set_cons_succ, lpK_r, flg_bool, swp_seq, swp_reg, swp_ret, seqK_n, seqK_r, blkK_r, condK_t, evK_some, appK_eq, srun_nil, srun_cons, fin_ret, sk_give, get_mk, raw_lit, put_some, wb_nil, ev_give, ro_bool, List.map_cons, List.map_nil, List.getD_cons_zero, List.getD_cons_succ, List.set_cons_zero, List.set_cons_succ, true_and, Bool.false_eq_true, ↓reduceIte]
        first | exact ⟨_, .same, rfl, rfl⟩ | exact ⟨_, .same, rfl⟩ | exact ⟨_, .same⟩
      | false =>
        simp (maxSteps := 2000000) (disch := first | omega | (simp only [List.length_append, List.length_cons, List.length_nil, List.length_map] <;> omega)) only [List.set_cons_zero, List.set_cons_succ, lpK_n, flg_int, swp_reg, swp_skip, seqK_n, blkK_n, condK_f, evK_some, appK_eq, srun_nil, srun_cons, sk_mv, sk_give, sk_bin, get_mk, raw_slot, raw_lit, put_some, wb_nil, ev_mv, ev_give, bin_add, ro_int, List.map_cons, List.map_nil, List.getD_cons_zero, List.getD_cons_succ, List.set_cons_zero, List.set_cons_succ, Bool.false_eq_true, ↓reduceIte, wrap_i64]
        refine ⟨_, ?_, ⟨k + 1, by omega, fun j hj hj' => ?_, rfl⟩, by exact fin2⟩
        · refine Forget.of ?_
          repeat first | exact fg_e | refine fg_d ?_ | refine fg_k rfl ?_
        · by_cases e : j = k
          · subst e; exact hu
          · exact hku j (by omega) hj'
def O319 : Orc := O318.add 20 (StC KRightT)
theorem s319 : Sound Tryd.prog O319 := s318.addS c20 (by kernel_rfl) (by
  rintro args r st ⟨v, t, hv, hs, ho, rfl, rfl⟩
  exact ⟨by simp [sf20], t20 v t st hv hs⟩)
theorem find_doc {t : List F} (p : List UInt8) (h : rightT t = true) : findI p t = findR t p := by
  unfold findI findR
  cases hh : has t p with
  | true => rw [find_low (right_srt h) hh, if_pos ⟨h, rfl⟩]
  | false =>
    rw [find_none.2 hh, if_neg (by rintro ⟨_, a⟩; cases a)]
theorem t22 (v : SV) (t : List F) (p : List UInt8) (st : List Ob) (hv : RowF st v t) (hs : smT t) (ho : okSt st) : swpF O319 sf22 [v, .str p] st (fun r st' => r = .int .i64 (findR t p) ∧ st' = st) := by
  obtain ⟨q1, q2, q3, q4, q6, q7⟩ := RowAt.facts hv
  have k20 : O319 20 [v] st (.bool (rightT t)) st := .inr ⟨rfl, rfl, v, t, hv, hs, ho, rfl, rfl⟩
  have k41 : O319 41 [v, .str p] st (.int .i64 (findI p t)) st := .inl (.inr ⟨rfl, rfl, v, t, p, hv, hs.1, rfl, rfl⟩)
  simp (maxSteps := 2000000) (disch := first | omega | (simp only [List.length_append, List.length_cons, List.length_nil, List.length_map] <;> omega)) only [sf22, q1, q2, q3, List.set_cons_zero, List.set_cons_succ, flg_int, swp_seq, swp_reg, seqK_n, evK_some, appK_eq, srun_nil, srun_cons, stepK_call, swpF_eq, sk_mv, sk_give, get_mk, raw_slot, raw_lit, put_some, wb_nil, ev_mv, ev_give, ro_int, pubs, pubsFrom, List.map_cons, List.map_nil, List.getD_cons_zero, List.set_cons_zero, List.set_cons_succ, List.length_cons, List.length_nil, List.replicate_succ, List.replicate_zero, List.cons_append, List.nil_append, Nat.reduceAdd, Nat.reduceSub, Bool.false_eq_true, ↓reduceIte, Nat.zero_add, Int.reduceNeg]
  refine callK_intro k20 ?_
  cases hR : rightT t with
  | false =>
    have e : findR t p = -1 := by unfold findR; rw [if_neg (by rintro ⟨a, _⟩; rw [hR] at a; cases a)]
    rw [e]
    simp (maxSteps := 2000000) (disch := first | omega | (simp only [List.length_append, List.length_cons, List.length_nil, List.length_map] <;> omega)) only [List.set_cons_zero, List.set_cons_succ, flg_int, swp_seq, swp_reg, swp_ret, swp_cond, seqK_n, seqK_r, condK_t, evK_some, appK_eq, appC_eq, srun_nil, srun_cons, fin_ret, sk_give, sk_un, get_mk, raw_slot, raw_lit, put_some, wb_nil, ev_give, ev_not, ro_int, List.map_cons, List.map_nil, List.getD_cons_zero, List.getD_cons_succ, List.set_cons_zero, List.set_cons_succ, true_and, Bool.false_eq_true, ↓reduceIte, Bool.not_false, Int.reduceNeg]
    first | exact ⟨_, .same, rfl, rfl⟩ | exact ⟨_, .same, rfl⟩ | exact ⟨_, .same⟩
  | true =>
    rw [find_doc p hR] at k41
    simp (maxSteps := 2000000) (disch := first | omega | (simp only [List.length_append, List.length_cons, List.length_nil, List.length_map] <;> omega)) only [q1, q2, q3, List.set_cons_zero, List.set_cons_succ, exc_str, swp_seq, swp_reg, swp_skip, swp_cond, seqK_n, condK_f, evK_some, appK_eq, appC_eq, srun_nil, srun_cons, stepK_call, sk_mv, sk_un, get_mk, raw_slot, put_some, wb_nil, ev_mv, ev_not, ro_str, got_str, pubs, pubsFrom, List.map_cons, List.map_nil, List.getD_cons_zero, List.getD_cons_succ, List.set_cons_zero, List.set_cons_succ, Bool.false_eq_true, ↓reduceIte, Bool.not_true, Int.reduceNeg]
    refine callK_intro k41 ?_
    simp (maxSteps := 2000000) (disch := first | omega | (simp only [List.length_append, List.length_cons, List.length_nil, List.length_map] <;> omega)) only [List.set_cons_zero, List.set_cons_succ, flg_int, swp_ret, seqK_n, evK_some, appK_eq, appC_eq, srun_nil, srun_cons, fin_ret, sk_give, get_mk, raw_slot, put_some, wb_nil, ev_give, ro_int, List.map_cons, List.map_nil, List.getD_cons_zero, List.getD_cons_succ, List.set_cons_zero, List.set_cons_succ, true_and, Bool.false_eq_true, ↓reduceIte]
    first | exact ⟨_, .same, rfl, rfl⟩ | exact ⟨_, .same, rfl⟩ | exact ⟨_, .same⟩
def O320 : Orc := O319.add 22 (StC KFindT)
theorem s320 : Sound Tryd.prog O320 := s319.addS c22 (by kernel_rfl) (by
  rintro args r st ⟨v, t, p, hv, hs, ho, rfl, rfl⟩
  exact ⟨by simp [sf22], t22 v t p st hv hs ho⟩)
theorem t17 (v : SV) (t : List F) (p : List UInt8) (st : List Ob) (hv : RowF st v t) (hs : smT t) (ho : okSt st) : swpF O320 sf17 [v, .str p] st (fun r st' => r = getV (getR t p) ∧ st' = st) := by
  obtain ⟨q1, q2, q3, q4, q6, q7⟩ := RowAt.facts hv
  have k21 : O320 22 [v, .str p] st (.int .i64 (findR t p)) st := .inr ⟨rfl, rfl, v, t, p, hv, hs, ho, rfl, rfl⟩
  simp (maxSteps := 2000000) (disch := first | omega | (simp only [List.length_append, List.length_cons, List.length_nil, List.length_map] <;> omega)) only [sf17, q1, q2, q3, List.set_cons_zero, List.set_cons_succ, flg_bool, flg_str, exc_str, swp_seq, swp_reg, seqK_n, evK_some, appK_eq, srun_nil, srun_cons, stepK_call, swpF_eq, sk_mv, sk_give, get_mk, raw_slot, raw_lit, put_some, wb_nil, ev_mv, ev_give, ro_bool, ro_str, got_str, pubs, pubsFrom, List.map_cons, List.map_nil, List.getD_cons_zero, List.getD_cons_succ, List.set_cons_zero, List.set_cons_succ, List.length_cons, List.length_nil, List.replicate_succ, List.replicate_zero, List.cons_append, List.nil_append, Nat.reduceAdd, Nat.reduceSub, Bool.false_eq_true, ↓reduceIte, Nat.zero_add]
  refine callK_intro k21 ?_
  rcases find_cases t p with ⟨e1, e2⟩ | ⟨hl, e1, e2⟩
  · rw [e1, e2]
    simp (maxSteps := 2000000) (disch := first | omega | (simp only [List.length_append, List.length_cons, List.length_nil, List.length_map] <;> omega)) only [getV, List.set_cons_zero, List.set_cons_succ, flg_bool, flg_int, flg_str, swp_seq, swp_reg, swp_ret, swp_cond, seqK_n, seqK_r, condK_t, evK_some, appK_eq, appC_eq, srun_nil, srun_cons, fin_two, sk_mv, sk_give, sk_bin, get_mk, raw_slot, raw_lit, put_some, wb_nil, ev_mv, ev_give, bin_lss, ro_int, ro_bool, ro_str, List.map_cons, List.map_nil, List.getD_cons_zero, List.getD_cons_succ, List.set_cons_zero, List.set_cons_succ, Bool.false_eq_true, ↓reduceIte, decide_true, Int.reduceLT, Int.reduceNeg]
    first | exact ⟨_, .same, rfl, rfl⟩ | exact ⟨_, .same, rfl⟩ | exact ⟨_, .same⟩
  · rw [e1, e2]
    have b1 := RowAt.idxB hv hl .i64
    have b2 := fun s => RowAt.fld hv (by omega) (lowP p t * 2) 1 s
    have b3 := RowF.f1 hv hl []
    rw [List.append_nil] at b3
    have hd : decide ((lowP p t : Int) < 0) = false := by rw [decide_eq_false_iff_not]; omega
    simp (maxSteps := 2000000) (disch := first | omega | (simp only [List.length_append, List.length_cons, List.length_nil, List.length_map] <;> omega)) only [hd, b1, b2, b3, q1, getV, List.set_cons_zero, List.set_cons_succ, flg_bool, flg_int, flg_str, sk_idxB, swp_seq, swp_reg, swp_skip, swp_ret, swp_cond, seqK_n, condK_f, evK_some, appK_eq, appC_eq, srun_nil, srun_cons, fin_two, sk_mv, sk_give, sk_bin, sk_fld, sk_load, get_mk, raw_slot, raw_lit, put_some, wb_nil, ev_mv, ev_give, bin_lss, ro_int, ro_bool, ro_str, List.map_cons, List.map_nil, List.getD_cons_zero, List.getD_cons_succ, List.set_cons_zero, List.set_cons_succ, Bool.false_eq_true, ↓reduceIte]
    first | exact ⟨_, .same, rfl, rfl⟩ | exact ⟨_, .same, rfl⟩ | exact ⟨_, .same⟩
def O321 : Orc := O320.add 17 (StC KGetT)
theorem s321 : Sound Tryd.prog O321 := s320.addS c17 (by kernel_rfl) (by
  rintro args r st ⟨v, t, p, hv, hs, ho, rfl, rfl⟩
  exact ⟨by simp [sf17], t17 v t p st hv hs ho⟩)
end Go.Sh.F
