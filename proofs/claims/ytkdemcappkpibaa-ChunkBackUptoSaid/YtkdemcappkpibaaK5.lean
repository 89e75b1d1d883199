/-
  The plain laws of pieces.
-/
import Derived.Test.YtkdemcappkpibaaK4
set_option linter.unusedSimpArgs false
set_option linter.unusedVariables false
namespace Go.Sh.F
open Go.Proofs (cutF cutL joinF cutF_len cutF_nil cutF_cons)
theorem countF_pos {n : Int} (h : 1 ≤ n) : countF n = (n - 1) / 64 + 1 := by
  unfold countF
  rw [if_neg (by omega), Int.tdiv_eq_ediv_of_nonneg (by omega)]
theorem countF_zero : countF 0 = 0 := rfl
theorem count_cut (s : List UInt8) : countF (s.length : Int) = ((cutF s).length : Int) := by
  have key : ∀ (n : Nat) (s : List UInt8), s.length ≤ n → countF (s.length : Int) = ((cutF s).length : Int) := by
    intro n
    induction n with
    | zero =>
      intro s h
      have : s = [] := List.eq_nil_of_length_eq_zero (by omega)
      subst this; rfl
    | succ n ih =>
      intro s h
      by_cases hs : s = []
      · subst hs; rfl
      · have hp := List.length_pos_iff.2 hs
        have := ih (s.drop 64) (by simp; omega)
        rw [cutF_cons hs, List.length_cons, countF_pos (by omega)]
        rw [List.length_drop] at this
        by_cases h64 : s.length ≤ 64
        · have e : s.length - 64 = 0 := by omega
          rw [e] at this
          have e2 : countF ((0 : Nat) : Int) = 0 := rfl
          rw [e2] at this
          omega
        · rw [countF_pos (by omega)] at this
          omega
  exact key _ s (Nat.le_refl _)
theorem cut_app : ∀ (k : Nat) (p t : List UInt8), p.length = k * 64 → cutF (p ++ t) = cutF p ++ cutF t ∧ (cutF p).length = k
  | 0, p, t, h => by
    have : p = [] := List.eq_nil_of_length_eq_zero (by omega)
    subst this
    exact ⟨rfl, rfl⟩
  | k + 1, p, t, h => by
    have hp : p ≠ [] := by intro e; subst e; simp at h
    have hp2 : p ++ t ≠ [] := by simp [hp]
    obtain ⟨i1, i2⟩ := cut_app k (p.drop 64) t (by rw [List.length_drop]; omega)
    rw [cutF_cons hp2, cutF_cons hp, List.take_append_of_le_length (by omega), List.drop_append_of_le_length (by omega), i1]
    refine ⟨rfl, ?_⟩
    rw [List.length_cons, i2]
/-- When pieces, one of which is another one, can be joined. -/
theorem good_set : ∀ (l : List (List UInt8)) (i : Nat) (x : List UInt8), goodL l = true → i < l.length → goodL (l.set i x) = (decide (x.length = 64) || decide (i + 1 = l.length) && (decide (1 ≤ x.length) && decide (x.length ≤ 64)))
  | [], i, x, _, h => by simp at h
  | [a], 0, x, hg, _ => by
    simp only [List.set_cons_zero, goodL, List.length_cons, List.length_nil]
    by_cases h : x.length = 64
    · simp [h]
    · simp [h]
  | [a], i + 1, x, _, h => by simp at h
  | a :: b :: r, 0, x, hg, _ => by
    simp only [goodL, Bool.and_eq_true, decide_eq_true_eq] at hg
    simp only [List.set_cons_zero, goodL, List.length_cons, hg.2, Bool.and_true]
    have : decide (0 + 1 = r.length + 1 + 1) = false := by simp
    rw [this]; simp
  | [a, b], 1, x, hg, _ => by
    simp only [goodL, Bool.and_eq_true, decide_eq_true_eq] at hg
    simp only [List.set_cons_succ, List.set_cons_zero, goodL, List.length_cons, List.length_nil, hg.1, decide_true, Bool.true_and]
    by_cases h : x.length = 64
    · simp [h]
    · simp [h]
  | a :: b :: c :: r, 1, x, hg, hi => by
    have ih := good_set (b :: c :: r) 0 x (by simp only [goodL, Bool.and_eq_true] at hg ⊢; exact hg.2) (by simp)
    simp only [goodL, Bool.and_eq_true, decide_eq_true_eq] at hg
    rw [List.set_cons_succ]
    simp only [List.set_cons_zero, List.length_cons] at ih ⊢
    rw [goodL, ih]
    simp only [hg.1, decide_true, Bool.true_and]
    congr 2
  | a :: b :: r, i + 2, x, hg, hi => by
    simp only [goodL, Bool.and_eq_true, decide_eq_true_eq] at hg
    have ih := good_set (b :: r) (i + 1) x hg.2 (by simp at hi ⊢; omega)
    rw [List.set_cons_succ]
    simp only [List.set_cons_succ, List.length_cons] at ih ⊢
    rw [goodL, ih]
    simp only [hg.1, decide_true, Bool.true_and]
    congr 2
    simp
theorem cut_goodL (s : List UInt8) : goodL (cutF s) = true := good_cut _ s (Nat.le_refl _)
theorem good_at {l : List (List UInt8)} (h : goodL l = true) : ∀ {i : Nat} (hi : i < l.length), 1 ≤ l[i].length ∧ l[i].length ≤ 64 ∧ (i + 1 < l.length → l[i].length = 64) := by
  induction l with
  | nil => intro i hi; simp at hi
  | cons a r ih =>
    intro i hi
    cases r with
    | nil =>
      simp only [goodL, Bool.and_eq_true, decide_eq_true_eq] at h
      simp at hi
      subst hi
      exact ⟨h.1, h.2, fun h2 => by simp at h2⟩
    | cons b r =>
      simp only [goodL, Bool.and_eq_true, decide_eq_true_eq] at h
      cases i with
      | zero => simp only [List.getElem_cons_zero]; exact ⟨by omega, by omega, fun _ => h.1⟩
      | succ i =>
        have := ih h.2 (i := i) (by simpa using hi)
        simp only [List.getElem_cons_succ]
        exact ⟨this.1, this.2.1, fun h2 => this.2.2 (by simpa using h2)⟩
theorem flat_sum (l : List (List UInt8)) : l.flatten.length = (l.map List.length).sum := List.length_flatten
end Go.Sh.F
