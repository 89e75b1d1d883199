/-
  What is written is read as it was; what is read is what was written; what is cut is not read: plain laws.
-/
import Derived.Test.YtfiigeiajhecoaaT11h
set_option linter.unusedSimpArgs false
set_option linter.unusedVariables false
namespace Go.Sh.F
theorem num4_be4 {k : Nat} (h : k ≤ 4294967295) : num4 (be4 k) = k := by
  simp only [num4, be4, List.foldl_cons, List.foldl_nil, UInt8.toNat_ofNat']
  omega
theorem be4_num4 {m : List UInt8} (h : m.length = 4) : be4 (num4 m) = m := by
  match m, h with
  | [a, b, c, d], _ =>
    have ha := a.toNat_lt
    have hb := b.toNat_lt
    have hc := c.toNat_lt
    have hd := d.toNat_lt
    have e : ∀ (x : UInt8) (k : Nat), k % 256 = x.toNat → UInt8.ofNat k = x := by
      intro x k h
      rw [← UInt8.toNat_inj]
      simp only [UInt8.toNat_ofNat']
      exact h
    simp only [num4, be4, List.foldl_cons, List.foldl_nil]
    rw [e a _ (by omega), e b _ (by omega), e c _ (by omega), e d _ (by omega)]
theorem take_at (l : List UInt8) (p k : Nat) : (l.take (p + k)).drop p = (l.drop p).take k := by
  rw [List.drop_take]; congr 1; omega
theorem numC {l : List UInt8} {p k : Nat} {Z R : List UInt8} {most : Int} (h : l.drop p ++ Z = be4 k ++ R) (hk : k ≤ 4294967295) (hm : (k : Int) ≤ most) (hp : p ≤ l.length) :
    numF ⟨l, p, 0⟩ most = (if 4 ≤ (l.drop p).length then ((k : Int), (⟨l, p + 4, 0⟩ : RdS)) else (0, ⟨l, p, 4⟩)) ∧ (4 ≤ (l.drop p).length → l.drop (p + 4) ++ Z = R) := by
  have hl : (l.drop p).length = l.length - p := List.length_drop
  by_cases h4 : 4 ≤ (l.drop p).length
  · rw [if_pos h4]
    have ht : (l.take (p + 4)).drop p = be4 k := by
      rw [take_at]
      have := congrArg (List.take 4) h
      rw [List.take_append_of_le_length h4, List.take_append_of_le_length (by simp [be4])] at this
      rw [this]
      exact List.take_of_length_le (by simp [be4])
    refine ⟨?_, fun _ => ?_⟩
    · unfold numF
      simp only [ht, num4_be4 hk]
      rw [if_neg (by simp), if_neg (by omega), if_neg (by omega)]
    · have := congrArg (List.drop 4) h
      rw [List.drop_append_of_le_length h4, List.drop_append_of_le_length (by simp [be4]), List.drop_drop] at this
      rw [this, List.drop_of_length_le (by simp [be4])]
      rfl
  · rw [if_neg h4]
    refine ⟨?_, fun h => absurd h h4⟩
    unfold numF
    simp only
    rw [if_neg (by simp), if_pos (by omega)]
theorem strB_eq (s : List UInt8) : strB s = be4 (s.take 16384).length ++ s.take 16384 := by
  simp only [strB, List.length_take]
  rw [Nat.min_comm]
theorem textC {l : List UInt8} {p : Nat} {s Z R : List UInt8} {most : Int} (h : l.drop p ++ Z = strB s ++ R) (hm : ((s.take 16384).length : Int) ≤ most) (hp : p ≤ l.length) :
    textF ⟨l, p, 0⟩ most = (if (strB s).length ≤ (l.drop p).length then (s.take 16384, (⟨l, p + (strB s).length, 0⟩ : RdS)) else ([], ⟨l, p, 4⟩)) ∧ ((strB s).length ≤ (l.drop p).length → l.drop (p + (strB s).length) ++ Z = R) := by
  have hl : (l.drop p).length = l.length - p := List.length_drop
  rw [strB_eq, List.append_assoc] at h
  have ht : (s.take 16384).length ≤ 16384 := by simp; omega
  have hs : (strB s).length = 4 + (s.take 16384).length := by rw [strB_eq]; simp [be4]; omega
  have hmin : ((s.take 16384).length : Int) ≤ minI most 16384 := by unfold minI; split <;> omega
  obtain ⟨h1, h2⟩ := numC h (by omega) hmin hp
  generalize s.take 16384 = t at *
  rw [hs]
  unfold textF
  rw [h1]
  by_cases h4 : 4 ≤ (l.drop p).length
  · rw [if_pos h4]
    simp only
    have h2 := h2 h4
    have hl2 : (l.drop (p + 4)).length = l.length - (p + 4) := List.length_drop
    rw [if_neg (by simp)]
    by_cases h5 : 4 + t.length ≤ (l.drop p).length
    · rw [if_pos h5, if_neg (by omega)]
      have h6 : t.length ≤ (l.drop (p + 4)).length := by omega
      have e1 : (l.take (p + 4 + t.length)).drop (p + 4) = t := by
        rw [take_at]
        have := congrArg (List.take t.length) h2
        rw [List.take_append_of_le_length h6, List.take_append_of_le_length (Nat.le_refl _), List.take_length] at this
        exact this
      refine ⟨?_, fun _ => ?_⟩
      · rw [Int.toNat_natCast, e1, Nat.add_assoc]
      · have := congrArg (List.drop t.length) h2
        rw [List.drop_append_of_le_length h6, List.drop_append_of_le_length (Nat.le_refl _), List.drop_drop, List.drop_length, List.nil_append] at this
        rw [← this, Nat.add_assoc]
    · rw [if_neg h5, if_pos (by omega)]
      exact ⟨rfl, fun h => absurd h h5⟩
  · rw [if_neg h4, if_neg (by omega)]
    simp only
    rw [if_pos (by simp)]
    exact ⟨rfl, fun h => absurd h (by omega)⟩
theorem textsC {l : List UInt8} {each : Int} {Z R : List UInt8} : ∀ (rows : List (List UInt8)) (p : Nat), l.drop p ++ Z = rows.flatMap strB ++ R → (∀ x ∈ rows, ((x.take 16384).length : Int) ≤ each) → p ≤ l.length →
    ((rows.flatMap strB).length ≤ (l.drop p).length → textsF each rows.length ⟨l, p, 0⟩ = (rows.map (List.take 16384), (⟨l, p + (rows.flatMap strB).length, 0⟩ : RdS)) ∧ l.drop (p + (rows.flatMap strB).length) ++ Z = R) ∧
    (¬ (rows.flatMap strB).length ≤ (l.drop p).length → ∃ p', textsF each rows.length ⟨l, p, 0⟩ = ([], ⟨l, p', 4⟩) ∨ ∃ r, textsF each rows.length ⟨l, p, 0⟩ = (r, ⟨l, p', 4⟩))
  | [], p, h, _, hp => by
    refine ⟨fun _ => ⟨rfl, by simpa using h⟩, fun h => absurd (by simp) h⟩
  | s :: rows, p, h, he, hp => by
    have hl : (l.drop p).length = l.length - p := List.length_drop
    rw [List.flatMap_cons, List.append_assoc] at h
    obtain ⟨h1, h2⟩ := textC h (he s List.mem_cons_self) hp
    rw [List.flatMap_cons, List.length_append, List.length_cons]
    by_cases h4 : (strB s).length ≤ (l.drop p).length
    · rw [if_pos h4] at h1
      have h2 := h2 h4
      have hl2 : (l.drop (p + (strB s).length)).length = l.length - (p + (strB s).length) := List.length_drop
      obtain ⟨i1, i2⟩ := textsC rows (p + (strB s).length) h2 (fun x hx => he x (List.mem_cons_of_mem _ hx)) (by omega)
      refine ⟨fun h5 => ?_, fun h5 => ?_⟩
      · obtain ⟨i3, i4⟩ := i1 (by omega)
        refine ⟨?_, by rw [← i4, Nat.add_assoc]⟩
        unfold textsF
        rw [h1]
        simp only
        rw [if_neg (by simp), i3]
        simp only [List.map_cons, Nat.add_assoc]
      · obtain ⟨p', i3⟩ := i2 (by omega)
        refine ⟨p', .inr ?_⟩
        unfold textsF
        rw [h1]
        simp only
        rw [if_neg (by simp)]
        rcases i3 with i3 | ⟨r, i3⟩ <;> rw [i3] <;> exact ⟨_, rfl⟩
    · rw [if_neg h4] at h1
      refine ⟨fun h5 => absurd h5 (by omega), fun _ => ⟨p, .inl ?_⟩⟩
      unfold textsF
      rw [h1]
      simp only
      rw [if_pos (by simp)]
theorem rowB_eq (rows : List (List UInt8)) : rowB rows = be4 (rows.take 256).length ++ (rows.take 256).flatMap strB := by
  simp only [rowB, List.length_take]
  rw [Nat.min_comm]
theorem rowC {l : List UInt8} {most each : Int} {Z R : List UInt8} {rows : List (List UInt8)} {p : Nat} (h : l.drop p ++ Z = rowB rows ++ R) (he : ∀ x ∈ rows, ((x.take 16384).length : Int) ≤ each) (hm : ((rows.take 256).length : Int) ≤ most) (hp : p ≤ l.length) :
    rowF ⟨l, p, 0⟩ most each = (if (rowB rows).length ≤ (l.drop p).length then ((rows.take 256).map (List.take 16384), (⟨l, p + (rowB rows).length, 0⟩ : RdS)) else ([], ⟨l, p, 4⟩)) ∧ ((rowB rows).length ≤ (l.drop p).length → l.drop (p + (rowB rows).length) ++ Z = R) := by
  have hl : (l.drop p).length = l.length - p := List.length_drop
  rw [rowB_eq, List.append_assoc] at h
  have ht : (rows.take 256).length ≤ 256 := by simp; omega
  have hs : (rowB rows).length = 4 + ((rows.take 256).flatMap strB).length := by rw [rowB_eq]; simp only [List.length_append]; rfl
  have hmin : ((rows.take 256).length : Int) ≤ minI most 256 := by unfold minI; split <;> omega
  have he' : ∀ x ∈ rows.take 256, ((x.take 16384).length : Int) ≤ each := fun x hx => he x (List.mem_of_mem_take hx)
  obtain ⟨h1, h2⟩ := numC h (by omega) hmin hp
  generalize rows.take 256 = t at *
  rw [hs]
  unfold rowF
  rw [h1]
  by_cases h4 : 4 ≤ (l.drop p).length
  · rw [if_pos h4]
    have h2 := h2 h4
    have hl2 : (l.drop (p + 4)).length = l.length - (p + 4) := List.length_drop
    obtain ⟨i1, i2⟩ := textsC t (p + 4) h2 he' (by omega)
    simp only
    rw [if_neg (by simp), Int.toNat_natCast]
    by_cases h5 : 4 + (t.flatMap strB).length ≤ (l.drop p).length
    · obtain ⟨i3, i4⟩ := i1 (by omega)
      rw [i3, if_pos h5]
      simp only
      rw [if_neg (by simp)]
      exact ⟨by rw [Nat.add_assoc], fun _ => by rw [← i4, Nat.add_assoc]⟩
    · obtain ⟨p', i3⟩ := i2 (by omega)
      rw [if_neg h5]
      refine ⟨?_, fun h => absurd h h5⟩
      rcases i3 with i3 | ⟨r, i3⟩ <;> rw [i3] <;> rfl
  · rw [if_neg h4]
    simp only
    rw [if_pos (by simp), if_neg (by omega)]
    exact ⟨rfl, fun h => absurd h (by omega)⟩
/-! Errors stay. -/
theorem numF_err {s : RdS} {most : Int} (h : s.e ≠ 0) : numF s most = (0, s) := by unfold numF; rw [if_pos h]
theorem textF_err {s : RdS} {most : Int} (h : s.e ≠ 0) : textF s most = ([], s) := by
  unfold textF
  rw [numF_err h]
  simp only
  rw [if_pos h]
theorem rowF_err {s : RdS} {most each : Int} (h : s.e ≠ 0) : rowF s most each = ([], s) := by
  unfold rowF
  rw [numF_err h]
  simp only
  rw [if_pos h]
theorem endF_err {s : RdS} (h : s.e ≠ 0) : endF s = s := by
  unfold endF
  rw [if_neg (fun hh => h hh.2)]
/-! What was read is what was written. -/
theorem numR {l : List UInt8} {p : Nat} {most : Int} (hp : p ≤ l.length) (h0 : (numF ⟨l, p, 0⟩ most).2.e = 0) :
    ∃ k : Nat, numF ⟨l, p, 0⟩ most = ((k : Int), (⟨l, p + 4, 0⟩ : RdS)) ∧ k ≤ 4294967295 ∧ (k : Int) ≤ most ∧ p + 4 ≤ l.length ∧ l.take (p + 4) = l.take p ++ be4 k := by
  unfold numF at h0 ⊢
  simp only [ne_eq, not_true_eq_false, if_false] at h0 ⊢
  split at h0
  · simp at h0
  · rename_i h1
    split at h0
    · simp at h0
    · rename_i h2
      rw [if_neg h1, if_neg h2]
      have h4 : ((l.take (p + 4)).drop p).length = 4 := by simp; omega
      have := num4_lt _ h4
      refine ⟨_, rfl, by omega, by omega, by omega, ?_⟩
      rw [be4_num4 h4, take_at, List.take_add]
theorem textR {l : List UInt8} {p : Nat} {most : Int} (hp : p ≤ l.length) (h0 : (textF ⟨l, p, 0⟩ most).2.e = 0) :
    ∃ (x : List UInt8), textF ⟨l, p, 0⟩ most = (x, (⟨l, p + (strB x).length, 0⟩ : RdS)) ∧ x.length ≤ 16384 ∧ p + (strB x).length ≤ l.length ∧ l.take (p + (strB x).length) = l.take p ++ strB x := by
  have hn0 : (numF ⟨l, p, 0⟩ (minI most 16384)).2.e = 0 := by
    unfold textF at h0
    simp only at h0
    split at h0
    · exact h0
    · rename_i h1; exact Classical.not_not.1 h1
  obtain ⟨k, h1, hk, hkm, hp4, h2⟩ := numR hp hn0
  have hk16 : k ≤ 16384 := by unfold minI at hkm; split at hkm <;> omega
  unfold textF at h0 ⊢
  rw [h1] at h0 ⊢
  simp only [ne_eq, not_true_eq_false, if_false] at h0 ⊢
  split at h0
  · simp at h0
  · rename_i h3
    rw [if_neg h3, Int.toNat_natCast]
    have hx : ((l.take (p + 4 + k)).drop (p + 4)).length = k := by simp; omega
    have hs : strB ((l.take (p + 4 + k)).drop (p + 4)) = be4 k ++ (l.take (p + 4 + k)).drop (p + 4) := by
      rw [strB_eq, List.take_of_length_le (by omega), hx]
    have hsl : (strB ((l.take (p + 4 + k)).drop (p + 4))).length = 4 + k := by rw [hs, List.length_append, hx]; rfl
    refine ⟨_, by rw [hsl, Nat.add_assoc], by omega, by omega, ?_⟩
    rw [hsl, hs, ← List.append_assoc, ← h2, take_at, ← List.take_add, Nat.add_assoc]
theorem textsR {l : List UInt8} {each : Int} : ∀ (n p : Nat), p ≤ l.length → (textsF each n ⟨l, p, 0⟩).2.e = 0 →
    ∃ rows, textsF each n ⟨l, p, 0⟩ = (rows, (⟨l, p + (rows.flatMap strB).length, 0⟩ : RdS)) ∧ rows.length = n ∧ p + (rows.flatMap strB).length ≤ l.length ∧ l.take (p + (rows.flatMap strB).length) = l.take p ++ rows.flatMap strB ∧ ∀ x ∈ rows, x.length ≤ 16384
  | 0, p, hp, _ => ⟨[], rfl, rfl, by simpa using hp, by simp, by simp⟩
  | n + 1, p, hp, h0 => by
    have hn0 : (textF ⟨l, p, 0⟩ each).2.e = 0 := by
      unfold textsF at h0
      split at h0
      · exact h0
      · rename_i h1; exact Classical.not_not.1 h1
    obtain ⟨x, h1, hx, hp1, h2⟩ := textR hp hn0
    unfold textsF at h0 ⊢
    rw [h1] at h0 ⊢
    simp only [ne_eq, not_true_eq_false, if_false] at h0 ⊢
    obtain ⟨rows, i1, i2, i3, i4, i5⟩ := textsR n _ hp1 h0
    refine ⟨x :: rows, ?_, by simp [i2], ?_, ?_, ?_⟩
    · rw [i1]
      simp only [List.flatMap_cons, List.length_append, Nat.add_assoc]
    · simp only [List.flatMap_cons, List.length_append]; omega
    · simp only [List.flatMap_cons, List.length_append]
      rw [← Nat.add_assoc, i4, h2, List.append_assoc]
    · intro y hy
      rcases List.mem_cons.1 hy with rfl | hy
      · exact hx
      · exact i5 y hy
theorem rowR {l : List UInt8} {p : Nat} {most each : Int} (hp : p ≤ l.length) (h0 : (rowF ⟨l, p, 0⟩ most each).2.e = 0) :
    ∃ rows, rowF ⟨l, p, 0⟩ most each = (rows, (⟨l, p + (rowB rows).length, 0⟩ : RdS)) ∧ rows.length ≤ 256 ∧ p + (rowB rows).length ≤ l.length ∧ l.take (p + (rowB rows).length) = l.take p ++ rowB rows ∧ (∀ x ∈ rows, x.length ≤ 16384) := by
  have hn0 : (numF ⟨l, p, 0⟩ (minI most 256)).2.e = 0 := by
    unfold rowF at h0
    split at h0
    · exact h0
    · rename_i h1; exact Classical.not_not.1 h1
  obtain ⟨k, h1, hk, hkm, hp4, h2⟩ := numR hp hn0
  have hk16 : k ≤ 256 := by unfold minI at hkm; split at hkm <;> omega
  unfold rowF at h0 ⊢
  rw [h1] at h0 ⊢
  simp only [ne_eq, not_true_eq_false, if_false, Int.toNat_natCast] at h0 ⊢
  have ht0 : (textsF each k ⟨l, p + 4, 0⟩).2.e = 0 := by
    split at h0
    · exact h0
    · rename_i h1; exact Classical.not_not.1 h1
  obtain ⟨rows, i1, i2, i3, i4, i5⟩ := textsR k _ hp4 ht0
  rw [i1]
  simp only [not_true_eq_false, if_false]
  have hb : rowB rows = be4 k ++ rows.flatMap strB := by rw [rowB_eq, List.take_of_length_le (by omega), i2]
  have hbl : (rowB rows).length = 4 + (rows.flatMap strB).length := by rw [hb, List.length_append]; rfl
  refine ⟨rows, by rw [hbl, Nat.add_assoc], by omega, by omega, ?_, i5⟩
  rw [hbl, ← Nat.add_assoc, i4, h2, hb, List.append_assoc]
end Go.Sh.F
