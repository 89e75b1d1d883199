/-
  WireNumbers, in the shadow machine.
-/
import Derived.Test.YtfiigeiajhecoaaT10
set_option linter.unusedSimpArgs false
set_option linter.unusedVariables false
namespace Go.Sh.F
theorem be4_lt {a b : Nat} (ha : a ≤ 4294967295) (hb : b ≤ 4294967295) : Op.bytesLess (be4 a) (be4 b) = decide (a < b) := by
  have e1 : ∀ x y : Nat, x < 256 → y < 256 → (UInt8.ofNat x < UInt8.ofNat y ↔ x < y) := by
    intro x y hx hy
    rw [UInt8.lt_iff_toNat_lt]
    simp only [UInt8.toNat_ofNat']
    omega
  have e2 : ∀ x y : Nat, x < 256 → y < 256 → ((UInt8.ofNat x == UInt8.ofNat y) = true ↔ x = y) := by
    intro x y hx hy
    rw [beq_iff_eq, ← UInt8.toNat_inj]
    simp only [UInt8.toNat_ofNat']
    omega
  have m : ∀ k : Nat, UInt8.ofNat k = UInt8.ofNat (k % 256) := by
    intro k
    rw [← UInt8.toNat_inj]
    simp
  rw [Bool.eq_iff_iff]
  simp only [be4, Op.bytesLess, m (a / 65536), m (a / 256), m a, m (b / 65536), m (b / 256), m b, Bool.or_eq_true, Bool.and_eq_true, decide_eq_true_eq, Bool.false_eq_true, and_false, or_false]
  rw [e1 _ _ (by omega) (by omega), e1 _ _ (by omega) (by omega), e1 _ _ (by omega) (by omega), e1 _ _ (by omega) (by omega), e2 _ _ (by omega) (by omega), e2 _ _ (by omega) (by omega), e2 _ _ (by omega) (by omega)]
  omega
theorem be4_eq {a b : Nat} (ha : a ≤ 4294967295) (hb : b ≤ 4294967295) : (be4 a == be4 b) = decide (a = b) := by
  rw [Bool.eq_iff_iff, beq_iff_eq, decide_eq_true_eq]
  constructor
  · intro h
    have h1 := be4_lt ha hb
    have h2 := be4_lt hb ha
    rw [h] at h1 h2
    have h3 := be4_lt hb hb
    rw [h3] at h1 h2
    simp at h1 h2
    omega
  · rintro rfl; rfl
theorem clampN_le (n : Int) : clampN n ≤ 4294967295 := by
  unfold clampN
  split
  · omega
  · split <;> omega
theorem p13 {args : List SV} {st st' : List Ob} {r : SV} (h : C13 args st r st') : O16 14 args st r st' := .inl (o13 h)
end Go.Sh.F
