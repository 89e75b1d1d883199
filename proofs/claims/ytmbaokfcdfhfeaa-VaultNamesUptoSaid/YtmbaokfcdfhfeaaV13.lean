/-
  VaultNames, in the shadow machine.
-/
import Derived.Test.YtmbaokfcdfhfeaaV12
set_option linter.unusedSimpArgs false
set_option linter.unusedVariables false
namespace Go.Sh.F
theorem wrap_toNat (x : BitVec 64) : IntKind.i64.wrap (x.toNat : Int) = x.toInt := by
  have e : IntKind.i64.wrap (x.toNat : Int) = if (x.toNat : Int) % 18446744073709551616 ≥ 9223372036854775808 then (x.toNat : Int) % 18446744073709551616 - 18446744073709551616 else (x.toNat : Int) % 18446744073709551616 := by
    simp [IntKind.wrap, IntKind.bits, IntKind.signed]
  have hx : x.toNat < 18446744073709551616 := x.isLt
  rw [e, BitVec.toInt_eq_toNat_cond]
  split <;> split <;> omega
theorem xorK_inj {a b k : Int} (ha : -9223372036854775808 ≤ a ∧ a ≤ 9223372036854775807) (hb : -9223372036854775808 ≤ b ∧ b ≤ 9223372036854775807) (h : xorK a k = xorK b k) : a = b := by
  have key : ∀ x : Int, xorK x k = (BitVec.ofInt 64 x ^^^ BitVec.ofInt 64 k).toInt := fun x => wrap_toNat _
  rw [key, key] at h
  have h1 := BitVec.toInt_inj.1 h
  have h2 : BitVec.ofInt 64 a = BitVec.ofInt 64 b := by
    have := congrArg (· ^^^ BitVec.ofInt 64 k) h1
    simpa [BitVec.xor_assoc] using this
  have h3 := congrArg BitVec.toInt h2
  rw [BitVec.toInt_ofInt, BitVec.toInt_ofInt] at h3
  rw [Int.bmod_eq_of_le (by omega) (by omega), Int.bmod_eq_of_le (by omega) (by omega)] at h3
  exact h3
theorem mget_mput {κ α : Type} [BEq κ] [LawfulBEq κ] {z k : κ} {x : α} : ∀ {l : List (κ × α)}, mget z (mput k x l) = if z == k then some x else mget z l
  | [] => by simp only [mput, mget]
  | p :: l => by
    simp only [mput]
    by_cases hk : (k == p.1) = true
    · have : k = p.1 := by simpa using hk
      rw [if_pos hk]
      simp only [mget]
      by_cases hz : (z == k) = true
      · rw [if_pos hz, if_pos hz]
      · rw [if_neg hz, if_neg hz, if_neg (by rw [← this]; exact hz)]
    · rw [if_neg hk]
      simp only [mget]
      by_cases hz : (z == p.1) = true
      · rw [if_pos hz, if_pos hz]
        have h1 : z = p.1 := by simpa using hz
        rw [if_neg (by rw [h1]; intro h2; exact hk (by rw [beq_iff_eq] at h2 ⊢; exact h2.symm))]
      · rw [if_neg hz, if_neg hz, mget_mput]
abbrev Ky := Int × List UInt8
def phi (key : Int) (more : List UInt8) (k : Ky) : Ky := (xorK k.1 key, more ++ k.2)
def inR (k : Ky) : Prop := -9223372036854775808 ≤ k.1 ∧ k.1 ≤ 9223372036854775807
theorem phi_inj {key : Int} {more : List UInt8} {a b : Ky} (ha : inR a) (hb : inR b) (h : phi key more a = phi key more b) : a = b := by
  obtain ⟨h1, h2⟩ := Prod.mk.inj h
  exact Prod.ext (xorK_inj ha hb h1) (List.append_cancel_left h2)
theorem mget_phi {key : Int} {more : List UInt8} {k : Ky} (hk : inR k) : ∀ {l : List (Ky × Int)}, (∀ p ∈ l, inR p.1) → mget (phi key more k) (l.map fun p => (phi key more p.1, p.2)) = mget k l
  | [], _ => rfl
  | p :: l, h => by
    rw [List.map_cons]
    simp only [mget]
    have e : (phi key more k == phi key more p.1) = (k == p.1) := by
      by_cases he : k = p.1
      · rw [he]; simp
      · rw [beq_eq_false_iff_ne.2 he, beq_eq_false_iff_ne.2 fun h' => he (phi_inj hk (h p List.mem_cons_self) h')]
    rw [e, mget_phi hk fun q hq => h q (List.mem_cons_of_mem _ hq)]
theorem name_found' {V : VS} {key : Int} {label : List UInt8} {nonce n : Int} (h : mget (key, label) V.n = some n) : nameF V key label nonce = ((n, 0), V) := by unfold nameF; rw [h]
theorem name_new' {V : VS} {key : Int} {label : List UInt8} {nonce : Int} (h : mget (key, label) V.n = none) (hl : V.n.length < 16384) : nameF V key label nonce = ((drawF (isT V) V.t.length (maskF nonce), 0), { V with n := mput (key, label) (drawF (isT V) V.t.length (maskF nonce)) V.n, t := mput (drawF (isT V) V.t.length (maskF nonce)) true V.t }) := by
  unfold nameF; rw [h]; simp only; rw [if_neg (by omega)]
/-- What is known of names. -/
structure Nm (l : List Cl) (i : Nat) (xs : List Int) (N : List (Ky × Int)) (T : List (Int × Bool)) : Prop where
  len : xs.length = i
  get : ∀ j (h : j < i) (h1 : j < l.length) (h2 : j < xs.length), mget (l[j].key, l[j].ad) N = some xs[j]
  inj : ∀ p ∈ N, ∀ q ∈ N, p.2 = q.2 → p.1 = q.1
  tak : ∀ p ∈ N, mget p.2 T = some true
  nl : N.length ≤ i
  tl : T.length ≤ i
  rng : ∀ p ∈ N, inR p.1
theorem Nm.step {l : List Cl} {i : Nat} {xs : List Int} {N : List (Ky × Int)} {T : List (Int × Bool)} (h : Nm l i xs N T) (hi : i < l.length) (hl : l.length ≤ 100) (hr : inR (l[i].key, l[i].ad)) (key : Int) (more : List UInt8) (nonce : Int) :
    ∃ x N' T', nameF ⟨[], N, T⟩ l[i].key l[i].ad nonce = ((x, 0), ⟨[], N', T'⟩) ∧ nameF ⟨[], N.map fun p => (phi key more p.1, p.2), T⟩ (xorK l[i].key key) (more ++ l[i].ad) nonce = ((x, 0), ⟨[], N'.map fun p => (phi key more p.1, p.2), T'⟩) ∧
      Nm l (i + 1) (xs ++ [x]) N' T' ∧ ∀ j (h1 : j < l.length) (h2 : j < xs.length), (xs[j] == x) = (l[j].key == l[i].key && l[j].ad == l[i].ad) := by
  obtain ⟨c, hc⟩ : ∃ c, c = l[i] := ⟨_, rfl⟩
  rw [← hc] at hr ⊢
  have hphi := mget_phi (key := key) (more := more) hr h.rng
  change mget (xorK c.key key, more ++ c.ad) _ = _ at hphi
  have hxl := h.len
  cases hm : mget (c.key, c.ad) N with
  | some n =>
    rw [hm] at hphi
    refine ⟨n, N, T, name_found' hm, name_found' hphi, ⟨by simp [hxl], fun j hj h1 h2 => ?_, h.inj, h.tak, by have := h.nl; omega, by have := h.tl; omega, h.rng⟩, fun j h1 h2 => ?_⟩
    · by_cases hji : j < i
      · rw [List.getElem_append_left (by omega)]; exact h.get j hji h1 (by omega)
      · have : j = i := by omega
        subst this
        rw [List.getElem_append_right (by omega)]
        simp only [hxl, Nat.sub_self, List.getElem_cons_zero]
        rw [← hc]; exact hm
    · have hg := h.get j (by omega) h1 h2
      by_cases hk : (l[j].key, l[j].ad) = (c.key, c.ad)
      · rw [hk, hm] at hg
        obtain ⟨k1, k2⟩ := Prod.mk.inj hk
        rw [Option.some.inj hg, k1, k2]; simp
      · have hne : ¬ xs[j] = n := by
          intro e
          rw [e] at hg
          exact hk (h.inj _ (mget_of hg) _ (mget_of hm) rfl)
        rw [beq_eq_false_iff_ne.2 hne]
        symm
        rw [Bool.and_eq_false_iff]
        by_cases k1 : l[j].key = c.key
        · right
          rw [beq_eq_false_iff_ne]
          intro k2
          exact hk (by rw [k1, k2])
        · left
          exact beq_eq_false_iff_ne.2 k1
  | none =>
    rw [hm] at hphi
    obtain ⟨x, hx⟩ : ∃ x, x = drawF (isT ⟨[], N, T⟩) T.length (maskF nonce) := ⟨_, rfl⟩
    have htl := h.tl
    have hfr : isT ⟨[], N, T⟩ x = false := by
      rw [hx]
      exact isT_free ⟨[], N, T⟩ (Nat.lt_of_le_of_lt htl (by omega)) nonce
    have hfree : (mget x T).getD false = false := hfr
    clear hfr
    have hxn : ∀ p ∈ N, p.2 ≠ x := by
      intro p hp e
      have := h.tak p hp
      rw [e] at this
      rw [this] at hfree
      cases hfree
    refine ⟨x, N ++ [((c.key, c.ad), x)], mput x true T, ?_, ?_, ⟨by simp [hxl], fun j hj h1 h2 => ?_, ?_, ?_, by have := h.nl; simp; omega, by have := h.tl; have := mput_len' (k := x) (x := true) (l := T); omega, ?_⟩, fun j h1 h2 => ?_⟩
    · have e1 := name_new' (V := ⟨[], N, T⟩) (nonce := nonce) hm (Nat.lt_of_le_of_lt h.nl (by omega))
      rw [e1]
      simp only [← hx, mput_fresh hm]
    · have hl2 : (N.map fun p => (phi key more p.1, p.2)).length < 16384 := by rw [List.length_map]; have := h.nl; omega
      generalize hM : (N.map fun p => (phi key more p.1, p.2)) = M at hphi hl2 ⊢
      have e1 := name_new' (V := ⟨[], M, T⟩) (key := xorK c.key key) (label := more ++ c.ad) (nonce := nonce) hphi hl2
      rw [e1]
      have e2 : isT ⟨[], M, T⟩ = isT ⟨[], N, T⟩ := rfl
      simp only [e2, ← hx, mput_fresh hphi, List.map_append, List.map_cons, List.map_nil]
      rw [hM]; rfl
    · by_cases hji : j < i
      · rw [List.getElem_append_left (by omega), mget_app, h.get j hji h1 (by omega)]; rfl
      · have : j = i := by omega
        subst this
        rw [List.getElem_append_right (by omega)]
        simp only [hxl, Nat.sub_self, List.getElem_cons_zero]
        rw [← hc, mget_app, hm]
        simp [mget]
    · intro p hp q hq e
      rcases List.mem_append.1 hp with hp | hp <;> rcases List.mem_append.1 hq with hq | hq
      · exact h.inj p hp q hq e
      · rw [List.mem_singleton.1 hq] at e; exact absurd e (hxn p hp)
      · rw [List.mem_singleton.1 hp] at e; exact absurd e.symm (hxn q hq)
      · rw [List.mem_singleton.1 hp, List.mem_singleton.1 hq]
    · intro p hp
      rw [mget_mput]
      rcases List.mem_append.1 hp with hp | hp
      · rw [if_neg (by rw [beq_iff_eq]; exact hxn p hp)]; exact h.tak p hp
      · rw [List.mem_singleton.1 hp]; simp
    · intro p hp
      rcases List.mem_append.1 hp with hp | hp
      · exact h.rng p hp
      · rw [List.mem_singleton.1 hp]; exact hr
    · have hg := h.get j (by omega) h1 h2
      have hk : ¬ (l[j].key, l[j].ad) = (c.key, c.ad) := by
        intro e
        rw [e, hm] at hg
        cases hg
      rw [beq_eq_false_iff_ne.2 (hxn _ (mget_of hg))]
      symm
      rw [Bool.and_eq_false_iff]
      by_cases k1 : l[j].key = c.key
      · right
        rw [beq_eq_false_iff_ne]
        intro k2
        exact hk (by rw [k1, k2])
      · left
        exact beq_eq_false_iff_ne.2 k1
end Go.Sh.F
