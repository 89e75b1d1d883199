/-
  WireOne, in the shadow machine.
-/
import Derived.Test.YtfiigeiajhecoaaT13h
set_option linter.unusedSimpArgs false
set_option linter.unusedVariables false
namespace Go.Sh.F
def rdL {α : Type} (f : α → SV) (v : SV) (l : List α) : Prop := (v = .nilS ∧ l = []) ∨ v = .sl (l.map f) l.length .ro
theorem rdL_facts {α : Type} {f : α → SV} {v : SV} {l : List α} (h : rdL f v l) : ro v = v ∧ got v = v ∧ exc v = false ∧ flg v = false ∧ ∀ st, ev st .lenL [v] = some (.int .i64 l.length, [], st) := by
  rcases h with ⟨rfl, rfl⟩ | rfl
  · exact ⟨rfl, rfl, rfl, rfl, fun _ => ev_lenN⟩
  · exact ⟨rfl, rfl, rfl, rfl, fun _ => ev_lenL⟩
theorem rdL_at {α : Type} {f : α → SV} {l : List α} {i : Nat} (h : i < l.length) : (l.map f)[i]? = some (f l[i]) := by simp [h]
def mV (v : SV) (p e : Int) : Ob := .cells [v, .int .i64 p, .int .i64 e]
section
variable {v : SV} {l : List UInt8} {p p' : Nat} {e e' most each n : Int} {id : Nat} {st st' : List Ob}
theorem v22 (hv : rdv v l) (hl : l.length ≤ 1099511627776) (hp : p ≤ l.length) (h : st[id]? = some (mV v p e)) (hn : numF ⟨l, p, e⟩ most = (n, ⟨l, p', e'⟩)) (hs : st' = st.set id (mV v p' e')) : O16 23 [.ptr id 0, .int .i64 most] st (.int .i64 n) st' :=
  .inl (o22 ⟨⟨l, p, e⟩, _, id, most, hv, hl, hp, h, rfl, by rw [hn], by rw [hn, hs]; rfl⟩)
theorem v24 {x : List UInt8} (hv : rdv v l) (hl : l.length ≤ 1099511627776) (hp : p ≤ l.length) (h : st[id]? = some (mV v p e)) (hn : textF ⟨l, p, e⟩ most = (x, ⟨l, p', e'⟩)) (hs : st' = st.set id (mV v p' e')) : O16 25 [.ptr id 0, .int .i64 most] st (.str x) st' :=
  .inl (o24 ⟨⟨l, p, e⟩, _, id, most, hv, hl, hp, h, rfl, by rw [hn], by rw [hn, hs]; rfl⟩)
theorem v27 {x : List (List UInt8)} (hv : rdv v l) (hl : l.length ≤ 1099511627776) (hp : p ≤ l.length) (h : st[id]? = some (mV v p e)) (hn : rowF ⟨l, p, e⟩ most each = (x, ⟨l, p', e'⟩)) (hs : st' = st.set id (mV v p' e')) : O16 28 [.ptr id 0, .int .i64 most, .int .i64 each] st (rowV x) st' :=
  .inl (o27 ⟨⟨l, p, e⟩, _, id, most, each, hv, hl, hp, h, rfl, by rw [hn], by rw [hn, hs]; rfl⟩)
theorem v29 (hv : rdv v l) (h : st[id]? = some (mV v p e)) (hn : endF ⟨l, p, e⟩ = ⟨l, p', e'⟩) (hs : st' = st.set id (mV v p' e')) : O16 30 [.ptr id 0] st (.int .i64 e') st' :=
  .inl (o29 ⟨⟨l, p, e⟩, _, id, hv, h, rfl, by rw [hn], by rw [hn, hs]; rfl⟩)
theorem v31 (h : st[id]? = some (mV v p e)) : O16 32 [.ptr id 0] st (.int .i64 e) st := .inl (o31 ⟨_, _, _, _, h, rfl, rfl, rfl⟩)
theorem v32 (h : st[id]? = some (mV v p e)) : O16 33 [.ptr id 0] st (.int .i64 p) st := .inl (o32 ⟨_, _, _, _, h, rfl, rfl, rfl⟩)
theorem v21 (hv : rdv v l) (hl : l.length ≤ 1099511627776) : O16 22 [v] st (.ptr st.length 0) (st ++ [mV v 0 0]) := by
  refine .inl (o21 ⟨v, l, rdv_isBs hv, hl, rfl, rfl, ?_⟩)
  rcases hv with ⟨rfl, _⟩ | rfl <;> rfl
end
/-- Where the readers come to. -/
theorem numF_spec2 (l : List UInt8) (p : Nat) (e most : Int) (hp : p ≤ l.length) : ∃ (k p' : Nat) (e' : Int), numF ⟨l, p, e⟩ most = ((k : Int), ⟨l, p', e'⟩) ∧ p' ≤ l.length ∧ (e ≠ 0 → e' = e ∧ p' = p) ∧ (e = 0 → e' = 0 → p' = p + 4 ∧ k ≤ 4294967295 ∧ (k : Int) ≤ most ∧ l.take p' = l.take p ++ be4 k) := by
  obtain ⟨k, p', e', h1, _, h2⟩ := numF_spec ⟨l, p, e⟩ most hp
  refine ⟨k, p', e', h1, h2, fun he => ?_, fun he he' => ?_⟩
  · rw [numF_err he] at h1
    simp only [Prod.mk.injEq, RdS.mk.injEq] at h1
    exact ⟨h1.2.2.2.symm, h1.2.2.1.symm⟩
  · subst he he'
    obtain ⟨k', i1, i2, i3, i4, i5⟩ := numR (most := most) hp (by rw [h1])
    rw [i1] at h1
    simp only [Prod.mk.injEq, RdS.mk.injEq, true_and, and_true, Int.natCast_inj] at h1
    obtain ⟨rfl, rfl⟩ := h1
    exact ⟨rfl, i2, i3, i5⟩
theorem textF_spec2 (l : List UInt8) (p : Nat) (e most : Int) (hp : p ≤ l.length) : ∃ (x : List UInt8) (p' : Nat) (e' : Int), textF ⟨l, p, e⟩ most = (x, ⟨l, p', e'⟩) ∧ p' ≤ l.length ∧ (e ≠ 0 → e' = e ∧ p' = p) ∧ (e = 0 → e' = 0 → x.length ≤ 16384 ∧ p' = p + (strB x).length ∧ l.take p' = l.take p ++ strB x) := by
  obtain ⟨x, p', e', h1, h2, _⟩ := textF_spec ⟨l, p, e⟩ most hp
  refine ⟨x, p', e', h1, h2, fun he => ?_, fun he he' => ?_⟩
  · rw [textF_err he] at h1
    simp only [Prod.mk.injEq, RdS.mk.injEq] at h1
    exact ⟨h1.2.2.2.symm, h1.2.2.1.symm⟩
  · subst he he'
    obtain ⟨k', i1, i2, i3, i4⟩ := textR (most := most) hp (by rw [h1])
    rw [i1] at h1
    simp only [Prod.mk.injEq, RdS.mk.injEq, true_and, and_true] at h1
    obtain ⟨rfl, rfl⟩ := h1
    exact ⟨i2, rfl, i4⟩
theorem textsF_l (each : Int) : ∀ (n : Nat) (s : RdS), s.p ≤ s.l.length → (textsF each n s).2.l = s.l ∧ (textsF each n s).2.p ≤ s.l.length ∧ (textsF each n s).1.length ≤ n
  | 0, s, h => ⟨rfl, h, by simp [textsF]⟩
  | n + 1, s, h => by
    obtain ⟨x, p, e, h1, h2, _⟩ := textF_spec s each h
    unfold textsF
    rw [h1]
    simp only
    split
    · exact ⟨rfl, h2, by simp⟩
    · have := textsF_l each n ⟨s.l, p, e⟩ h2
      exact ⟨this.1, this.2.1, by simp only [List.length_cons]; omega⟩
theorem rowF_spec2 (l : List UInt8) (p : Nat) (e most each : Int) (hp : p ≤ l.length) : ∃ (x : List (List UInt8)) (p' : Nat) (e' : Int), rowF ⟨l, p, e⟩ most each = (x, ⟨l, p', e'⟩) ∧ p' ≤ l.length ∧ (e ≠ 0 → e' = e ∧ p' = p) ∧ (e = 0 → e' = 0 → x.length ≤ 256 ∧ p' = p + (rowB x).length ∧ l.take p' = l.take p ++ rowB x) := by
  obtain ⟨x, p', e', h1, h2⟩ : ∃ (x : List (List UInt8)) (p' : Nat) (e' : Int), rowF ⟨l, p, e⟩ most each = (x, ⟨l, p', e'⟩) ∧ p' ≤ l.length := by
    obtain ⟨n, p1, e1, hn, _, hp1⟩ := numF_spec ⟨l, p, e⟩ (minI most 256) hp
    unfold rowF
    rw [hn]
    simp only
    split
    · exact ⟨_, _, _, rfl, hp⟩
    · have := textsF_l each (n : Int).toNat ⟨l, p1, e1⟩ hp1
      generalize textsF each (n : Int).toNat ⟨l, p1, e1⟩ = T at *
      obtain ⟨x, l', p', e'⟩ := T
      simp only at this
      obtain ⟨rfl, h, _⟩ := this
      split
      · exact ⟨_, _, _, rfl, hp⟩
      · exact ⟨_, _, _, rfl, h⟩
  refine ⟨x, p', e', h1, h2, fun he => ?_, fun he he' => ?_⟩
  · rw [rowF_err he] at h1
    simp only [Prod.mk.injEq, RdS.mk.injEq] at h1
    exact ⟨h1.2.2.2.symm, h1.2.2.1.symm⟩
  · subst he he'
    obtain ⟨k', i1, i2, i3, i4, _⟩ := rowR (most := most) (each := each) hp (by rw [h1])
    rw [i1] at h1
    simp only [Prod.mk.injEq, RdS.mk.injEq, true_and, and_true] at h1
    obtain ⟨rfl, rfl⟩ := h1
    exact ⟨i2, rfl, i4⟩
theorem endF_spec2 (l : List UInt8) (p : Nat) (e : Int) (hp : p ≤ l.length) : ∃ e' : Int, endF ⟨l, p, e⟩ = ⟨l, p, e'⟩ ∧ (e ≠ 0 → e' = e) ∧ (e' = 0 → e = 0 ∧ p = l.length) := by
  by_cases he : e = 0
  · subst he
    by_cases h : p < l.length
    · exact ⟨4, by simp [endF, h], fun h => absurd rfl h, fun h => absurd h (by decide)⟩
    · exact ⟨0, by simp [endF, h], fun _ => rfl, fun _ => ⟨rfl, by omega⟩⟩
  · exact ⟨e, endF_err he, fun _ => rfl, fun h => absurd h he⟩
/-- What was put together so far, and how it goes on. -/
def outV (ov : SV) (O : List UInt8) : Prop := (ov = .nilS ∧ O = []) ∨ ov = .sl (bsv O) O.length (.excl 1)
theorem w13r {gv : SV} {A : List UInt8} {st : List Ob} (hv : rdv gv A) (n : Int) (hl : A.length ≤ 1099511627776) : O16 14 [gv, .int .i64 n] st (.sl (bsv (A ++ be4 (clampN n))) (A.length + 4) (.excl 1)) st := p13 ⟨rfl, gv, A, n, rdv_isBs hv, hl, rfl, rfl⟩
theorem w14r {gv : SV} {A : List UInt8} {st : List Ob} (hv : rdv gv A) (s : List UInt8) (hl : A.length ≤ 549755813888) : O16 15 [gv, .str s] st (.sl (bsv (A ++ strB s)) (A.length + (strB s).length) (.excl 1)) st := .inl (o14 ⟨rfl, gv, A, s, rdv_isBs hv, hl, rfl, rfl⟩)
theorem w15r {gv u : SV} {A : List UInt8} {rows : List (List UInt8)} {st : List Ob} (hv : rdv gv A) (hu : rdS u rows) (hl : A.length ≤ 274877906944) : O16 16 [gv, u] st (.sl (bsv (A ++ rowB rows)) (A ++ rowB rows).length (.excl 1)) st := .inl (o15 ⟨rfl, gv, u, A, rows, hv, hu, hl, rfl, rfl⟩)
theorem outV_mk {k : Nat} {X : List UInt8} (h : k = X.length) : outV (.sl (bsv X) k (.excl 1)) X := .inr (by rw [h])
theorem be4_len (k : Nat) : (be4 k).length = 4 := rfl
theorem rowV_cases (rows : List (List UInt8)) : (rowV rows = .nilS ∧ rdS .nilS rows) ∨ (rowV rows = .sl (ssv rows) rows.length (.excl 1) ∧ rdS (.sl (ssv rows) rows.length .ro) rows) := by
  by_cases h : rows = []
  · exact .inl ⟨by rw [rowV, if_pos h], .inl ⟨rfl, h⟩⟩
  · exact .inr ⟨by rw [rowV, if_neg h], .inr rfl⟩
end Go.Sh.F
