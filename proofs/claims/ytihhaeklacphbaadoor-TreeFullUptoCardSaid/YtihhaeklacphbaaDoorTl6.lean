/-
  Trees: the names that TreeFull puts, and what Put tells of them.
-/
import Derived.Test.YtihhaeklacphbaaDoorTl4
set_option linter.unusedSimpArgs false
set_option linter.unusedVariables false
namespace Go.Sh.F
open Go.PathLaw Go.TreeLaw Go.Proofs
def nm (i : Nat) : List UInt8 := [102, UInt8.ofNat (97 + i % 26), UInt8.ofNat (97 + i / 26)]
theorem nm_ok : ∀ i, i < 40 → rightB (nm i) = true := by decide +kernel
theorem nm_clash : ∀ i, i < 40 → ∀ j, j < 40 → clashB (nm i) (nm j) = false := by decide +kernel
theorem nm_lt : ∀ i, i < 16 → ∀ j, j < i → lt (nm j) (nm i) = true := by decide +kernel
theorem nm_ne : ∀ i, i < 40 → ∀ j, j < 16 → j < i → nm j ≠ nm i := by decide +kernel
def tF (d : List UInt8) (k : Nat) : List F := (List.range k).map fun j => (nm j, d)
theorem tF_len (d : List UInt8) (k : Nat) : (tF d k).length = k := by simp [tF]
theorem tF_mem {d : List UInt8} {k : Nat} {f : F} (h : f ∈ tF d k) : ∃ j, j < k ∧ f = (nm j, d) := by
  simp only [tF, List.mem_map, List.mem_range] at h
  obtain ⟨j, hj, rfl⟩ := h
  exact ⟨j, hj, rfl⟩
theorem tF_succ (d : List UInt8) (k : Nat) : tF d (k + 1) = tF d k ++ [(nm k, d)] := by simp [tF, List.range_succ]
theorem ins_end {p d : List UInt8} : ∀ {t : List F}, (∀ f ∈ t, lt f.1 p = true ∧ f.1 ≠ p) → insP p d t = t ++ [(p, d)]
  | [], _ => rfl
  | f :: r, h => by
    have hf := h f List.mem_cons_self
    rw [insP, if_neg hf.2, if_pos hf.1, ins_end (fun g hg => h g (List.mem_cons_of_mem _ hg))]
    rfl
theorem tF_right {d : List UInt8} (hd : d.length ≤ 600) {k : Nat} (hk : k ≤ 16) : rightT (tF d k) = true := by
  rw [right_iff]
  refine ⟨by rw [tF_len]; exact hk, fun f hf => ?_, ?_, fun f hf x hx => ?_⟩
  · obtain ⟨j, hj, rfl⟩ := tF_mem hf
    exact ⟨nm_ok j (by omega), hd⟩
  · unfold Srt tF
    rw [List.pairwise_map]
    refine List.Pairwise.imp_of_mem ?_ List.pairwise_lt_range
    intro a b ha hb hab
    rw [List.mem_range] at ha hb
    exact nm_lt b (by omega) a hab
  · obtain ⟨i, hi, rfl⟩ := tF_mem hf
    obtain ⟨j, hj, rfl⟩ := tF_mem hx
    have := nm_clash i (by omega) j (by omega)
    unfold clashB at this
    rw [Bool.or_eq_false_iff] at this
    first | exact this.1 | exact this.2
theorem tF_clash {d : List UInt8} {k i : Nat} (hk : k ≤ 16) (hi : i < 40) : clashT (tF d k) (nm i) = false := by
  unfold clashT
  rw [List.any_eq_false]
  intro f hf
  obtain ⟨j, hj, rfl⟩ := tF_mem hf
  rw [nm_clash j (by omega) i hi]
  simp
theorem tF_has {d : List UInt8} {k i : Nat} (hk : k ≤ 16) (hi : i < 40) (hki : k ≤ i) : has (tF d k) (nm i) = false := by
  rw [Bool.eq_false_iff]
  intro h
  obtain ⟨d', hm⟩ := has_iff.1 h
  obtain ⟨j, hj, e⟩ := tF_mem hm
  exact nm_ne i hi j (by omega) (by omega) (congrArg Prod.fst e).symm
/-- The tree after some steps. -/
def tS (d : List UInt8) (i : Nat) : List F := if d.length ≤ 600 then tF d (min i 16) else []
theorem tS_right (d : List UInt8) (i : Nat) : rightT (tS d i) = true := by
  unfold tS
  split
  · rename_i h; exact tF_right h (by omega)
  · rfl
theorem tS_step (d : List UInt8) {i : Nat} (hi : i < 40) : (d.length ≤ 600 ∧ i < 16 ∧ (tS d i).length = i ∧ putR (tS d i) (nm i) d = (0, tS d (i + 1)) ∧ (tS d (i + 1)).length = i + 1 ∧ ∀ id x, putO (tS d i) (nm i) d id = .sl ((tS d (i + 1)).flatMap fC) (i + 1) (.excl 2) ∧ putS (tS d i) (nm i) d x = []) ∨
    ((600 < d.length ∨ 16 ≤ i) ∧ (600 < d.length ∨ (tS d i).length = 16) ∧ putR (tS d i) (nm i) d = (2, []) ∧ tS d (i + 1) = tS d i ∧ ∀ id x, putO (tS d i) (nm i) d id = .nilS ∧ putS (tS d i) (nm i) d x = []) := by
  have hR := tS_right d i
  have fullC : (600 < d.length ∨ 16 ≤ i) → canPut (tS d i) (nm i) d = 2 := by
    intro h
    unfold canPut
    have h1 := nm_ok i hi
    have h2 : clashT (tS d i) (nm i) = false := by
      unfold tS
      split
      · exact tF_clash (by omega) hi
      · rfl
    rw [if_neg (by rw [h1, h2]; simp), if_pos]
    by_cases h6 : 600 < d.length
    · exact .inl h6
    · refine .inr ?_
      unfold tS
      rw [if_pos (by omega)]
      exact ⟨tF_has (by omega) hi (by omega), by rw [tF_len]; omega⟩
  by_cases h6 : d.length ≤ 600 ∧ i < 16
  · obtain ⟨h6, h16⟩ := h6
    have e1 : tS d i = tF d i := by unfold tS; rw [if_pos h6, Nat.min_eq_left (by omega)]
    have e2 : tS d (i + 1) = tF d (i + 1) := by unfold tS; rw [if_pos h6, Nat.min_eq_left (by omega)]
    rw [e1, e2]
    rw [e1] at hR
    have hh := tF_has (d := d) (k := i) (i := i) (by omega) hi (Nat.le_refl _)
    have hins : insP (nm i) d (tF d i) = tF d (i + 1) := by
      rw [tF_succ]
      refine ins_end fun f hf => ?_
      obtain ⟨j, hj, rfl⟩ := tF_mem hf
      exact ⟨nm_lt i h16 j hj, nm_ne i hi j (by omega) hj⟩
    have hc : canPut (tF d i) (nm i) d = 0 := by
      unfold canPut
      have h1 := nm_ok i hi
      have h2 := tF_clash (d := d) (k := i) (by omega) hi
      rw [if_neg (by rw [h1, h2]; simp), if_neg (by rw [hh, tF_len]; simp; omega)]
    have hP : putR (tF d i) (nm i) d = (0, tF d (i + 1)) := by unfold putR; rw [if_pos hR, if_pos hc, hins]
    refine .inl ⟨h6, h16, tF_len _ _, hP, tF_len _ _, fun id x => ⟨?_, ?_⟩⟩
    · unfold putO; rw [hP, hh]; simp [tF_len]
    · unfold putS; rw [hP, hh]; simp
  · have h7 : 600 < d.length ∨ 16 ≤ i := by omega
    have hc := fullC h7
    have hP : putR (tS d i) (nm i) d = (2, []) := by unfold putR; rw [if_pos hR, hc]; rfl
    refine .inr ⟨h7, ?_, hP, ?_, fun id x => ⟨?_, ?_⟩⟩
    · by_cases h8 : 600 < d.length
      · exact .inl h8
      · refine .inr ?_
        unfold tS
        rw [if_pos (by omega), tF_len]; omega
    · unfold tS
      by_cases h8 : d.length ≤ 600
      · rw [if_pos h8, if_pos h8, show min (i + 1) 16 = min i 16 by omega]
      · rw [if_neg h8, if_neg h8]
    · unfold putO; rw [hP]; rfl
    · unfold putS; rw [hP]; rfl
theorem szT_tF (d : List UInt8) : ∀ k, szT (tF d k) = k * d.length
  | 0 => by simp [tF, szT]
  | k + 1 => by rw [tF_succ, szT_snoc, szT_tF d k, Nat.add_mul]; simp
theorem smT_tS {d : List UInt8} (hd : sm d) (i : Nat) : smT (tS d i) := by
  unfold tS
  split
  · refine ⟨by rw [tF_len]; omega, fun f hf => ?_⟩
    obtain ⟨j, hj, rfl⟩ := tF_mem hf
    exact ⟨by show (3 : Nat) ≤ _; decide, hd⟩
  · exact ⟨by simp, by simp⟩
end Go.Sh.F
