/-
  The vault: what it holds, in plain Lean.
-/
import Derived.Test.YtmbaokfcdfhfeaaV1
set_option linter.unusedSimpArgs false
set_option linter.unusedVariables false
namespace Go.Sh.F
/-- Struct values in maps. -/
abbrev Sd := Int × List UInt8 × List UInt8
structure VS where
  s : List (Int × Sd)
  n : List ((Int × List UInt8) × Int)
  t : List (Int × Bool)
def fS (x : Sd) : SV := .agg [.int .i64 x.1, .str x.2.1, .str x.2.2]
def eO (a : Int × List UInt8) : SV := .agg [.int .i64 a.1, .str a.2]
def encS (l : List (Int × Sd)) : List (SV × SV) := l.map fun p => (.int .i64 p.1, fS p.2)
def encN (l : List ((Int × List UInt8) × Int)) : List (SV × SV) := l.map fun p => (eO p.1, .int .i64 p.2)
def encT (l : List (Int × Bool)) : List (SV × SV) := l.map fun p => (.int .i64 p.1, .bool p.2)
theorem keyO (a b : Int × List UInt8) : keyEq [.i, .s] true (eO a) (eO b) = some (a == b) := by
  show eqKs _ _ _ = _
  rw [eqKs_i]
  by_cases h : (a.1 == b.1) = true
  · rw [if_pos h, eqKs_s]
    by_cases h2 : (a.2 == b.2) = true
    · rw [if_pos h2, eqKs_nil]
      show some true = some (a.1 == b.1 && a.2 == b.2)
      rw [h, h2]; rfl
    · rw [if_neg h2]
      show some false = some (a.1 == b.1 && a.2 == b.2)
      simp only [Bool.not_eq_true] at h2
      rw [h2, Bool.and_false]
  · rw [if_neg h]
    show some false = some (a.1 == b.1 && a.2 == b.2)
    simp only [Bool.not_eq_true] at h
    rw [h, Bool.false_and]
theorem keyOkO (a : Int × List UInt8) : keyOk [.i, .s] true (eO a) = true := rfl
def zS : SV := .agg [.int .i64 0, .str [], .str []]
theorem lkS (l : List (Int × Sd)) (n : Int) : lkpV [.i] false true (.agg [.int .i64 0, .str [], .str []]) (.int .i64 n) (encS l) = some (.tup [((mget n l).map fS).getD zS, .bool (mget n l).isSome]) := lkp_g (ok := true) keyI (fun _ => keyOkF _ _) l n
theorem lkN (l : List ((Int × List UInt8) × Int)) (k : Int) (s : List UInt8) : lkpV [.i, .s] true true (.int .i64 0) (.agg [.int .i64 k, .str s]) (encN l) = some (.tup [((mget (k, s) l).map (.int .i64)).getD (.int .i64 0), .bool (mget (k, s) l).isSome]) := lkp_g (ok := true) (e := eO) (f := .int .i64) keyO keyOkO l (k, s)
theorem lkT (l : List (Int × Bool)) (n : Int) : lkpV [.i] false false (.bool false) (.int .i64 n) (encT l) = some (((mget n l).map .bool).getD (.bool false)) := lkp_g (ok := false) (f := .bool) keyI (fun _ => keyOkF _ _) l n
theorem upS (l : List (Int × Sd)) (n k : Int) (a p : List UInt8) : updV [.i] false (.int .i64 n) (.agg [.int .i64 k, .str a, .str p]) (encS l) = some (encS (mput n (k, a, p) l)) := upd_g (f := fS) keyI (fun _ => keyOkF _ _) l n (k, a, p)
theorem enc_lenS (l : List (Int × Sd)) : (encS l).length = l.length := by simp [encS]
theorem enc_lenN (l : List ((Int × List UInt8) × Int)) : (encN l).length = l.length := by simp [encN]

/-! The first number that is not taken. -/
def stepI (x : Int) : Int := (x + 1).tmod 4294967296
def drawF (T : Int → Bool) : Nat → Int → Int
  | 0, x => x
  | f + 1, x => if T x then drawF T f (stepI x) else x
/-- How many steps there are. -/
def drawN (T : Int → Bool) : Nat → Int → Nat
  | 0, _ => 0
  | f + 1, x => if T x then drawN T f (stepI x) + 1 else 0
theorem drawN_eq {T : Int → Bool} : ∀ (j F : Nat) (x : Int), T (drawF T j x) = false → j ≤ F → drawN T F x = drawN T j x
  | 0, 0, _, _, _ => rfl
  | 0, F + 1, x, h, _ => by simp only [drawF] at h; simp [drawN, h]
  | j + 1, 0, _, _, h => by omega
  | j + 1, F + 1, x, h, hF => by
    simp only [drawN]
    by_cases hx : T x = true
    · rw [if_pos hx, if_pos hx, drawN_eq j F (stepI x) (by simpa [drawF, hx] using h) (by omega)]
    · rw [if_neg hx, if_neg hx]
def maskF (n : Int) : Int := IntKind.i64.wrap (BitVec.ofInt IntKind.i64.bits n &&& BitVec.ofInt IntKind.i64.bits 4294967295).toNat
theorem mask_eq (n : Int) : maskF n = n % 4294967296 := by
  unfold maskF
  have h : (BitVec.ofInt IntKind.i64.bits n &&& BitVec.ofInt IntKind.i64.bits 4294967295).toNat = (n % 4294967296).toNat := by
    show (BitVec.ofInt 64 n &&& BitVec.ofInt 64 4294967295).toNat = _
    rw [BitVec.toNat_and]
    have e : (BitVec.ofInt 64 4294967295).toNat = 2 ^ 32 - 1 := by decide
    rw [e, Nat.and_two_pow_sub_one_eq_mod, BitVec.toNat_ofInt]
    omega
  rw [h]
  rw [wrap_i64 (by omega) (by omega)]
  omega
theorem mask_range (n : Int) : 0 ≤ maskF n ∧ maskF n < 4294967296 := by rw [mask_eq]; omega
theorem step_eq {x : Int} (h : 0 ≤ x) : stepI x = (x + 1) % 4294967296 := by
  unfold stepI
  rw [Int.tmod_eq_emod_of_nonneg (by omega)]
theorem nodup_len : ∀ (a b : List Int), a.Nodup → (∀ x ∈ a, x ∈ b) → a.length ≤ b.length
  | [], _, _, _ => by simp
  | x :: a, b, hn, hs => by
    rw [List.nodup_cons] at hn
    have hx := hs x List.mem_cons_self
    have := nodup_len a (b.erase x) hn.2 (fun y hy => by
      have hne : y ≠ x := by rintro rfl; exact hn.1 hy
      exact (List.mem_erase_of_ne hne).2 (hs y (List.mem_cons_of_mem _ hy)))
    rw [List.length_erase_of_mem hx] at this
    have : 0 < b.length := List.length_pos_of_mem hx
    simp only [List.length_cons]
    omega
theorem draw_it {T : Int → Bool} : ∀ (F : Nat) (x : Int), 0 ≤ x → x < 4294967296 → T (drawF T F x) = true → ∀ i : Nat, i ≤ F → T ((x + i) % 4294967296) = true
  | 0, x, h0, h1, h, i, hi => by
    have : i = 0 := by omega
    subst this
    simp only [drawF] at h
    rw [show (x + ((0 : Nat) : Int)) % 4294967296 = x by omega]; exact h
  | F + 1, x, h0, h1, h, i, hi => by
    simp only [drawF] at h
    by_cases hx : T x = true
    · rw [if_pos hx] at h
      cases i with
      | zero => rw [show (x + ((0 : Nat) : Int)) % 4294967296 = x by omega]; exact hx
      | succ i =>
        have hs := step_eq h0
        have := draw_it F (stepI x) (by rw [hs]; omega) (by rw [hs]; omega) h i (by omega)
        rw [hs] at this
        rw [show (x + ((i + 1 : Nat) : Int)) % 4294967296 = ((x + 1) % 4294967296 + (i : Int)) % 4294967296 by omega]
        exact this
    · rw [if_neg hx] at h
      exact absurd h hx
theorem draw_free {T : Int → Bool} {keys : List Int} (hT : ∀ n, T n = true → n ∈ keys) (hl : keys.length < 4294967296) {x : Int} (h0 : 0 ≤ x) (h1 : x < 4294967296) : T (drawF T keys.length x) = false := by
  cases h : T (drawF T keys.length x) with
  | false => rfl
  | true =>
    exfalso
    have hi := draw_it keys.length x h0 h1 h
    have := nodup_len ((List.range (keys.length + 1)).map fun i : Nat => (x + i) % 4294967296) keys (by
      rw [List.nodup_iff_pairwise_ne, List.pairwise_map]
      refine List.Pairwise.imp_of_mem ?_ (List.nodup_iff_pairwise_ne.1 List.nodup_range)
      intro i j hi hj hne heq
      rw [List.mem_range] at hi hj
      omega) (fun y hy => by
      obtain ⟨i, hi', rfl⟩ := List.mem_map.1 hy
      rw [List.mem_range] at hi'
      exact hT _ (hi i (by omega)))
    rw [List.length_map, List.length_range] at this
    omega
theorem draw_range {T : Int → Bool} : ∀ (F : Nat) (x : Int), 0 ≤ x → x < 4294967296 → 0 ≤ drawF T F x ∧ drawF T F x < 4294967296
  | 0, x, h0, h1 => ⟨h0, h1⟩
  | F + 1, x, h0, h1 => by
    simp only [drawF]
    split
    · have hs := step_eq h0
      exact draw_range F _ (by rw [hs]; omega) (by rw [hs]; omega)
    · exact ⟨h0, h1⟩
theorem mget_mem {α : Type} {k : Int} : ∀ {l : List (Int × α)}, (mget k l).isSome = true → k ∈ l.map (·.1)
  | [], h => by cases h
  | p :: l, h => by
    simp only [mget] at h
    by_cases hk : (k == p.1) = true
    · rw [List.map_cons]; rw [beq_iff_eq] at hk; rw [hk]; exact List.mem_cons_self
    · rw [if_neg hk] at h
      rw [List.map_cons]; exact List.mem_cons_of_mem _ (mget_mem h)

/-! What each function of a vault does. -/
def isS (V : VS) (x : Int) : Bool := (mget x V.s).isSome
def isT (V : VS) (x : Int) : Bool := (mget x V.t).getD false
def sealF (V : VS) (key : Int) (ad plain : List UInt8) (nonce : Int) : (Int × Int) × VS :=
  if bucketF plain.length < 0 then ((0, 5), V) else if 16384 ≤ V.s.length then ((0, 2), V) else
  ((drawF (isS V) V.s.length (maskF nonce), 0), { V with s := mput (drawF (isS V) V.s.length (maskF nonce)) (key, ad, plain) V.s })
def openF (V : VS) (key : Int) (ad : List UInt8) (h : Int) : List UInt8 × Int :=
  match mget h V.s with | none => ([], 7) | some x => if (x.1 == key && x.2.1 == ad) = true then (x.2.2, 0) else ([], 7)
def szF (V : VS) (h : Int) : Int := match mget h V.s with | none => 0 | some x => sizeF (bucketF x.2.2.length)
def nameF (V : VS) (key : Int) (label : List UInt8) (nonce : Int) : (Int × Int) × VS :=
  match mget (key, label) V.n with
  | some n => ((n, 0), V)
  | none => if 16384 ≤ V.n.length then ((0, 2), V) else
    ((drawF (isT V) V.t.length (maskF nonce), 0), { V with n := mput (key, label) (drawF (isT V) V.t.length (maskF nonce)) V.n, t := mput (drawF (isT V) V.t.length (maskF nonce)) true V.t })
theorem isS_free (V : VS) (h : V.s.length < 4294967296) (nonce : Int) : isS V (drawF (isS V) V.s.length (maskF nonce)) = false := by
  have := draw_free (T := isS V) (keys := V.s.map (·.1)) (fun n hn => mget_mem hn) (by simpa using h) (mask_range nonce).1 (mask_range nonce).2
  simpa using this
theorem isT_free (V : VS) (h : V.t.length < 4294967296) (nonce : Int) : isT V (drawF (isT V) V.t.length (maskF nonce)) = false := by
  have := draw_free (T := isT V) (keys := V.t.map (·.1)) (fun n hn => mget_mem (by
    unfold isT at hn
    cases hm : mget n V.t with
    | none => rw [hm] at hn; cases hn
    | some _ => rfl)) (by simpa using h) (mask_range nonce).1 (mask_range nonce).2
  simpa using this
end Go.Sh.F
