/-
  WireBack, in the shadow machine.
-/
import Derived.Test.YtfiigeiajhecoaaT12h
set_option linter.unusedSimpArgs false
set_option linter.unusedVariables false
namespace Go.Sh.F
/-! Calls, from within the laws. -/
section
variable {st : List Ob}
theorem w13n (n : Int) : O16 14 [.nilS, .int .i64 n] st (.sl (bsv (be4 (clampN n))) 4 (.excl 1)) st := p13 ⟨rfl, .nilS, [], n, .inl ⟨rfl, rfl⟩, by simp, rfl, rfl⟩
theorem w13 {A : List UInt8} {k : Nat} (n : Int) (hk : k = A.length) (hl : k ≤ 1099511627776) : O16 14 [.sl (bsv A) k .ro, .int .i64 n] st (.sl (bsv (A ++ be4 (clampN n))) (k + 4) (.excl 1)) st := by
  subst hk; exact p13 ⟨rfl, _, A, n, .inr ⟨_, .inl rfl, rfl⟩, hl, rfl, rfl⟩
theorem w14n (s : List UInt8) : O16 15 [.nilS, .str s] st (.sl (bsv (strB s)) (strB s).length (.excl 1)) st := by
  refine .inl (o14 ⟨rfl, .nilS, [], s, .inl ⟨rfl, rfl⟩, by simp, rfl, ?_⟩)
  simp
theorem w14 {A : List UInt8} {k : Nat} (s : List UInt8) (hk : k = A.length) (hl : k ≤ 549755813888) : O16 15 [.sl (bsv A) k .ro, .str s] st (.sl (bsv (A ++ strB s)) (k + (strB s).length) (.excl 1)) st := by
  subst hk; exact .inl (o14 ⟨rfl, _, A, s, .inr ⟨_, .inl rfl, rfl⟩, hl, rfl, rfl⟩)
theorem w15n {u : SV} {rows : List (List UInt8)} (hu : rdS u rows) : O16 16 [.nilS, u] st (.sl (bsv (rowB rows)) (rowB rows).length (.excl 1)) st :=
  .inl (o15 ⟨rfl, _, u, [], rows, .inl ⟨rfl, rfl⟩, hu, by simp, rfl, rfl⟩)
theorem w15 {A : List UInt8} {k : Nat} {u : SV} {rows : List (List UInt8)} (hu : rdS u rows) (hk : k = A.length) (hl : k ≤ 274877906944) : O16 16 [.sl (bsv A) k .ro, u] st (.sl (bsv (A ++ rowB rows)) (A ++ rowB rows).length (.excl 1)) st := by
  subst hk; exact .inl (o15 ⟨rfl, _, u, A, rows, .inr rfl, hu, hl, rfl, rfl⟩)
theorem w21 {A : List UInt8} {k : Nat} (hk : k = A.length) (hl : k ≤ 1099511627776) : O16 22 [.sl (bsv A) k .ro] st (.ptr st.length 0) (st ++ [mR A 0 0]) := by
  subst hk; exact .inl (o21 ⟨_, A, .inr ⟨_, .inl rfl, rfl⟩, hl, rfl, rfl, rfl⟩)
theorem wfew {u : SV} {rows : List (List UInt8)} (hu : rdS u rows) (hl : rows.length ≤ 1099511627776) (hs : ∀ i, sumL (rows.take i) ≤ 1099511627776) : O16 13 [u] st (.bool (decide (rows.length ≤ 300 ∧ sumL rows ≤ 20000))) st :=
  .inl (o12 ⟨rfl, u, rows, hu, hl, hs, rfl, rfl⟩)
theorem w26 {u v : SV} {a b : List (List UInt8)} (hu : rdS u a) (hv : rdS v b) (hl : a.length ≤ 1099511627776) : O16 27 [u, v] st (.bool (decide (a = b))) st := .inl (o26 ⟨rfl, u, v, a, b, hu, hv, hl, rfl, rfl⟩)
end
theorem sumL_take_le (rows : List (List UInt8)) (i : Nat) : sumL (rows.take i) ≤ sumL rows := by
  have h : sumL rows = sumL (rows.take i) + sumL (rows.drop i) := by
    unfold sumL
    rw [← List.sum_append, ← List.map_append, List.take_append_drop]
  omega
theorem rowB_len (rows : List (List UInt8)) : (rowB rows).length ≤ 4195332 := by
  rw [rowB_eq]
  have := flat_len (rows.take 256)
  have h : (rows.take 256).length ≤ 256 := by simp; omega
  have h4 : ∀ k, (be4 k).length = 4 := fun _ => rfl
  simp only [List.length_append, h4]
  omega
theorem num1 {l : List UInt8} {p k : Nat} {R : List UInt8} {most : Int} (h : l.drop p = be4 k ++ R) (hk : k ≤ 4294967295) (hm : (k : Int) ≤ most) (hp : p ≤ l.length) :
    numF ⟨l, p, 0⟩ most = ((k : Int), (⟨l, p + 4, 0⟩ : RdS)) ∧ l.drop (p + 4) = R ∧ p + 4 ≤ l.length := by
  obtain ⟨h1, h2⟩ := numC (Z := []) (by rw [List.append_nil]; exact h) hk hm hp
  have hl : (l.drop p).length = l.length - p := List.length_drop
  have h4 : 4 ≤ (l.drop p).length := by rw [h]; simp [be4]
  rw [if_pos h4] at h1
  exact ⟨h1, by simpa using h2 h4, by omega⟩
theorem text1 {l : List UInt8} {p : Nat} {s R : List UInt8} {most : Int} (h : l.drop p = strB s ++ R) (hs : s.length ≤ 16384) (hm : (s.length : Int) ≤ most) (hp : p ≤ l.length) :
    textF ⟨l, p, 0⟩ most = (s, (⟨l, p + (strB s).length, 0⟩ : RdS)) ∧ l.drop (p + (strB s).length) = R ∧ p + (strB s).length ≤ l.length := by
  have ht : s.take 16384 = s := List.take_of_length_le hs
  obtain ⟨h1, h2⟩ := textC (Z := []) (most := most) (by rw [List.append_nil]; exact h) (by rw [ht]; exact hm) hp
  have hl : (l.drop p).length = l.length - p := List.length_drop
  have h4 : (strB s).length ≤ (l.drop p).length := by rw [h]; simp
  rw [if_pos h4, ht] at h1
  exact ⟨h1, by simpa using h2 h4, by omega⟩
theorem row1 {l : List UInt8} {p : Nat} {rows : List (List UInt8)} {R : List UInt8} {most each : Int} (h : l.drop p = rowB rows ++ R) (hr : rows.length ≤ 256) (hs : ∀ x ∈ rows, x.length ≤ 16384 ∧ (x.length : Int) ≤ each) (hm : (rows.length : Int) ≤ most) (hp : p ≤ l.length) :
    rowF ⟨l, p, 0⟩ most each = (rows, (⟨l, p + (rowB rows).length, 0⟩ : RdS)) ∧ l.drop (p + (rowB rows).length) = R ∧ p + (rowB rows).length ≤ l.length := by
  have ht : rows.take 256 = rows := List.take_of_length_le hr
  have ht2 : ∀ x ∈ rows, x.take 16384 = x := fun x hx => List.take_of_length_le (hs x hx).1
  obtain ⟨h1, h2⟩ := rowC (Z := []) (most := most) (each := each) (by rw [List.append_nil]; exact h) (fun x hx => by rw [ht2 x hx]; exact (hs x hx).2) (by rw [ht]; exact hm) hp
  have hl : (l.drop p).length = l.length - p := List.length_drop
  have h4 : (rowB rows).length ≤ (l.drop p).length := by rw [h]; simp
  have hmap : rows.map (List.take 16384) = rows := by
    conv => rhs; rw [← List.map_id rows]
    exact List.map_congr_left ht2
  rw [if_pos h4, ht, hmap] at h1
  exact ⟨h1, by simpa using h2 h4, by omega⟩
theorem back_ok {n m : Nat} {s : List UInt8} {rows : List (List UInt8)} (hn : n ≤ 4294967295) (hm : m ≤ 4294967295) (hs : s.length ≤ 16384) (hr : rows.length ≤ 256) (hx : ∀ x ∈ rows, x.length ≤ 16384) {B : List UInt8} (hB : B = ((be4 n ++ strB s) ++ rowB rows) ++ be4 m) :
    ∃ p2 p3 p4 : Nat, numF ⟨B, 0, 0⟩ n = ((n : Int), ⟨B, 4, 0⟩) ∧ textF ⟨B, 4, 0⟩ s.length = (s, ⟨B, p2, 0⟩) ∧ rowF ⟨B, p2, 0⟩ rows.length 16384 = (rows, ⟨B, p3, 0⟩) ∧ numF ⟨B, p3, 0⟩ m = ((m : Int), ⟨B, p4, 0⟩) ∧ endF ⟨B, p4, 0⟩ = ⟨B, p4, 0⟩ ∧ 4 ≤ B.length ∧ p2 ≤ B.length ∧ p3 ≤ B.length ∧ p4 ≤ B.length := by
  have h0 : B.drop 0 = be4 n ++ (strB s ++ (rowB rows ++ (be4 m ++ []))) := by rw [hB]; simp
  obtain ⟨a1, a2, a3⟩ := num1 (most := n) h0 hn (by omega) (by omega)
  obtain ⟨b1, b2, b3⟩ := text1 (most := s.length) a2 hs (by omega) a3
  obtain ⟨c1, c2, c3⟩ := row1 (most := rows.length) (each := 16384) b2 hr (fun x h => ⟨hx x h, by have := hx x h; omega⟩) (by omega) b3
  obtain ⟨d1, d2, d3⟩ := num1 (most := m) c2 hm (by omega) c3
  refine ⟨_, _, _, a1, b1, c1, d1, ?_, a3, b3, c3, d3⟩
  unfold endF
  have := congrArg List.length d2
  rw [List.length_drop] at this
  simp only [List.length_nil] at this
  rw [if_neg (fun h => by simp only at h; omega)]
end Go.Sh.F
