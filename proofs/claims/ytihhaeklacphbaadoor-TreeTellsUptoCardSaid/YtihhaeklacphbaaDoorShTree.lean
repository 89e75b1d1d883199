/-
  The plain laws of trees of files: lists alone.
-/
import Derived.Test.YtihhaeklacphbaaDoorShPath
namespace Go.TreeLaw
open Go.PathLaw

abbrev F := List UInt8 × List UInt8
def paths (t : List F) : List (List UInt8) := t.map (·.1)
def noUnder (t : List F) : Bool := t.all fun f => t.all fun x => !underB f.1 x.1
def rightT (t : List F) : Bool := decide (t.length ≤ 16) && sortedB (paths t) && t.all (fun f => decide (f.2.length ≤ 600)) && noUnder t
def has (t : List F) (p : List UInt8) : Bool := t.any fun f => f.1 == p
def clashT (t : List F) (p : List UInt8) : Bool := t.any fun f => clashB f.1 p
def Srt (t : List F) : Prop := t.Pairwise fun x y => lt x.1 y.1 = true

theorem right_iff (t : List F) : rightT t = true ↔ t.length ≤ 16 ∧ (∀ f ∈ t, rightB f.1 = true ∧ f.2.length ≤ 600) ∧ Srt t ∧ ∀ f ∈ t, ∀ x ∈ t, underB f.1 x.1 = false := by
  unfold rightT noUnder paths
  simp only [Bool.and_eq_true, decide_eq_true_eq, sorted_iff, List.all_eq_true, Bool.not_eq_true', List.mem_map, List.pairwise_map]
  constructor
  · rintro ⟨⟨⟨h1, h2, h3⟩, h4⟩, h5⟩
    exact ⟨h1, fun f hf => ⟨h2 _ ⟨f, hf, rfl⟩, h4 f hf⟩, h3, h5⟩
  · rintro ⟨h1, h2, h3, h4⟩
    exact ⟨⟨⟨h1, fun x ⟨f, hf, e⟩ => e ▸ (h2 f hf).1, h3⟩, fun f hf => (h2 f hf).2⟩, h4⟩
/-- As the loops go, one file behind the other. -/
theorem right_at (t : List F) : rightT t = true ↔ t.length ≤ 16 ∧ ∀ i (h : i < t.length), rightB t[i].1 = true ∧ t[i].2.length ≤ 600 ∧ (0 < i → lt (t[i - 1]'(by omega)).1 t[i].1 = true) ∧ (t.any fun x => underB t[i].1 x.1) = false := by
  have hs := sorted_at (paths t)
  unfold rightT noUnder
  simp only [Bool.and_eq_true, decide_eq_true_eq, hs, List.all_eq_true]
  simp only [paths, List.length_map, List.getElem_map]
  constructor
  · rintro ⟨⟨⟨h1, h2⟩, h3⟩, h4⟩
    refine ⟨h1, fun i h => ⟨(h2 i h).1, h3 _ (List.getElem_mem h), (h2 i h).2, ?_⟩⟩
    rw [List.any_eq_false]
    intro x hx
    have := h4 _ (List.getElem_mem h) x hx
    simpa using this
  · rintro ⟨h1, h2⟩
    refine ⟨⟨⟨h1, fun i h => ⟨(h2 i h).1, (h2 i h).2.2.1⟩⟩, fun f hf => ?_⟩, fun f hf x hx => ?_⟩
    · obtain ⟨i, hi, rfl⟩ := List.getElem_of_mem hf
      exact (h2 i hi).2.1
    · obtain ⟨i, hi, rfl⟩ := List.getElem_of_mem hf
      have := List.any_eq_false.1 (h2 i hi).2.2.2 x hx
      simpa using this
/-- As the document's loops go. -/
theorem right_doc (t : List F) : rightT t = true ↔ t.length ≤ 16 ∧ ∀ i (h : i < t.length), rightB t[i].1 = true ∧ t[i].2.length ≤ 600 ∧ (0 < i → lt (t[i - 1]'(by omega)).1 t[i].1 = true) ∧ ∀ k (hk : k < i), underB t[i].1 t[k].1 = false := by
  rw [right_at]
  constructor
  · rintro ⟨h1, h2⟩
    refine ⟨h1, fun i h => ⟨(h2 i h).1, (h2 i h).2.1, (h2 i h).2.2.1, fun k hk => ?_⟩⟩
    have := List.any_eq_false.1 (h2 i h).2.2.2 _ (List.getElem_mem (show k < t.length by omega))
    simpa using this
  · rintro ⟨h1, h2⟩
    refine ⟨h1, fun i h => ⟨(h2 i h).1, (h2 i h).2.1, (h2 i h).2.2.1, ?_⟩⟩
    rw [List.any_eq_false]
    intro x hx
    obtain ⟨k, hk, rfl⟩ := List.getElem_of_mem hx
    have hsort : sortedB (paths t) = true := (sorted_at _).2 fun i h => by
      simp only [paths, List.length_map, List.getElem_map] at h ⊢
      exact ⟨(h2 i h).1, (h2 i h).2.2.1⟩
    have hp := ((sorted_iff _).1 hsort).2
    rcases Nat.lt_trichotomy k i with hki | rfl | hki
    · rw [(h2 i h).2.2.2 k hki]; simp
    · rw [under_irrefl]; simp
    · cases hu : underB t[i].1 t[k].1 with
      | false => simp
      | true =>
        have h3 := under_lt hu
        have h4 := List.pairwise_iff_getElem.1 hp i k (by simpa [paths] using h) (by simpa [paths] using hk) hki
        simp only [paths, List.getElem_map] at h4
        rw [lt_asymm h3] at h4; cases h4

/-! Places. -/
def lowP (p : List UInt8) : List F → Nat
  | [] => 0
  | f :: r => if lt f.1 p = true then lowP p r + 1 else 0
def findP (p : List UInt8) : List F → Option Nat
  | [] => none
  | f :: r => if f.1 = p then some 0 else (findP p r).map (· + 1)
def insP (p d : List UInt8) : List F → List F
  | [] => [(p, d)]
  | f :: r => if f.1 = p then (p, d) :: r else if lt f.1 p = true then f :: insP p d r else (p, d) :: f :: r
def delP (p : List UInt8) (t : List F) : List F := t.filter fun f => f.1 != p
def getP (p : List UInt8) : List F → Option (List UInt8)
  | [] => none
  | f :: r => if f.1 = p then some f.2 else getP p r

theorem has_iff {t : List F} {p : List UInt8} : has t p = true ↔ ∃ d, (p, d) ∈ t := by
  unfold has
  rw [List.any_eq_true]
  constructor
  · rintro ⟨⟨a, b⟩, h1, h2⟩
    simp only [beq_iff_eq] at h2
    exact ⟨b, h2 ▸ h1⟩
  · rintro ⟨d, h⟩
    exact ⟨_, h, by simp⟩
theorem low_le (p : List UInt8) : ∀ t, lowP p t ≤ t.length
  | [] => Nat.le_refl _
  | f :: r => by unfold lowP; split <;> simp [low_le p r]
theorem low_lt (p : List UInt8) : ∀ (t : List F) (i : Nat) (h : i < t.length), i < lowP p t → lt t[i].1 p = true
  | [], i, h, _ => by simp at h
  | f :: r, i, h, hl => by
    unfold lowP at hl
    split at hl
    · rename_i hf
      cases i with
      | zero => exact hf
      | succ i => exact low_lt p r i (by simpa using h) (by omega)
    · omega
theorem low_ge (p : List UInt8) : ∀ (t : List F), Srt t → ∀ (i : Nat) (h : i < t.length), lowP p t ≤ i → lt t[i].1 p = false
  | [], _, i, h, _ => by simp at h
  | f :: r, hs, i, h, hl => by
    obtain ⟨h1, h2⟩ := List.pairwise_cons.1 hs
    unfold lowP at hl
    split at hl
    · cases i with
      | zero => omega
      | succ i => exact low_ge p r h2 i (by simpa using h) (by omega)
    · rename_i hf
      cases i with
      | zero => simpa using hf
      | succ i =>
        have hir : i < r.length := by simpa using h
        have hm := h1 _ (List.getElem_mem hir)
        simp only [List.getElem_cons_succ]
        cases hb : lt (r[i]'hir).1 p with
        | false => rfl
        | true => exact absurd (lt_trans hm hb) hf
/-- Where a search by halves ends. -/
theorem low_unique {t : List F} {p : List UInt8} (hs : Srt t) {k : Nat} (hk : k ≤ t.length) (h1 : ∀ i (h : i < t.length), i < k → lt t[i].1 p = true) (h2 : ∀ i (h : i < t.length), k ≤ i → lt t[i].1 p = false) : k = lowP p t := by
  have h3 := low_le p t
  rcases Nat.lt_trichotomy k (lowP p t) with h | h | h
  · have a := low_lt p t k (by omega) h
    rw [h2 k (by omega) (Nat.le_refl _)] at a; cases a
  · exact h
  · have a := low_ge p t hs (lowP p t) (by omega) (Nat.le_refl _)
    rw [h1 _ (by omega) h] at a; cases a
theorem low_has {t : List F} {p : List UInt8} (hs : Srt t) : has t p = true ↔ ∃ h : lowP p t < t.length, t[lowP p t].1 = p := by
  constructor
  · intro h
    obtain ⟨d, hd⟩ := has_iff.1 h
    obtain ⟨i, hi, e⟩ := List.getElem_of_mem hd
    have h1 : lowP p t = i := by
      refine (low_unique hs (by omega) (fun j hj hji => ?_) (fun j hj hij => ?_)).symm
      · have := List.pairwise_iff_getElem.1 hs j i hj hi hji
        rw [e] at this; exact this
      · rcases Nat.eq_or_lt_of_le hij with rfl | hlt
        · rw [e]; exact lt_irrefl _
        · have := List.pairwise_iff_getElem.1 hs i j hi hj hlt
          rw [e] at this
          exact lt_asymm this
    subst h1
    exact ⟨hi, by rw [e]⟩
  · rintro ⟨h, e⟩
    have hm := List.getElem_mem h
    generalize t[lowP p t] = f at hm e
    obtain ⟨a, b⟩ := f
    simp only at e
    subst e
    exact has_iff.2 ⟨b, hm⟩
theorem find_some {p : List UInt8} : ∀ {t : List F} {k : Nat}, findP p t = some k → ∃ h : k < t.length, t[k].1 = p
  | [], k, h => by simp [findP] at h
  | f :: r, k, h => by
    unfold findP at h
    split at h
    · rename_i e
      cases h
      exact ⟨by simp, e⟩
    · rw [Option.map_eq_some_iff] at h
      obtain ⟨j, hj, rfl⟩ := h
      obtain ⟨h1, h2⟩ := find_some hj
      exact ⟨by simpa using h1, h2⟩
theorem find_none {p : List UInt8} : ∀ {t : List F}, findP p t = none ↔ has t p = false
  | [] => by simp [findP, has]
  | f :: r => by
    have ih := find_none (p := p) (t := r)
    unfold findP
    have e : has (f :: r) p = (f.1 == p || has r p) := rfl
    rw [e]
    split
    · rename_i h; simp [h]
    · rename_i h
      rw [Option.map_eq_none_iff, ih]
      have : (f.1 == p) = false := by simpa using h
      rw [this, Bool.false_or]
theorem find_low {t : List F} {p : List UInt8} (hs : Srt t) (h : has t p = true) : findP p t = some (lowP p t) := by
  cases hf : findP p t with
  | none => rw [find_none.1 hf] at h; cases h
  | some k =>
    obtain ⟨h1, h2⟩ := find_some hf
    obtain ⟨h3, h4⟩ := (low_has hs).1 h
    congr 1
    refine low_unique hs (by omega) (fun j hj hji => ?_) (fun j hj hij => ?_)
    · have := List.pairwise_iff_getElem.1 hs j k hj h1 hji
      rw [h2] at this; exact this
    · rcases Nat.eq_or_lt_of_le hij with rfl | hlt
      · rw [h2]; exact lt_irrefl _
      · have := List.pairwise_iff_getElem.1 hs k j h1 hj hlt
        rw [h2] at this
        exact lt_asymm this
theorem get_find (p : List UInt8) : ∀ t : List F, getP p t = (findP p t).map fun k => ((t[k]?).map (·.2)).getD []
  | [] => rfl
  | f :: r => by
    unfold getP findP
    split
    · rfl
    · rw [get_find p r]
      cases findP p r <;> rfl
/-- A file is put at its place. -/
theorem ins_low {p d : List UInt8} : ∀ {t : List F}, Srt t → insP p d t = if has t p = true then t.set (lowP p t) (p, d) else t.take (lowP p t) ++ (p, d) :: t.drop (lowP p t)
  | [], _ => rfl
  | f :: r, hs => by
    obtain ⟨h1, h2⟩ := List.pairwise_cons.1 hs
    have ih := ins_low (p := p) (d := d) h2
    have e : has (f :: r) p = (f.1 == p || has r p) := rfl
    unfold insP lowP
    by_cases hfp : f.1 = p
    · subst hfp
      rw [if_pos rfl, e, beq_self_eq_true, Bool.true_or, if_pos rfl, if_neg (by rw [lt_irrefl]; simp)]; rfl
    · rw [if_neg hfp]
      have hb : (f.1 == p) = false := by simpa using hfp
      rw [e, hb, Bool.false_or]
      by_cases hl : lt f.1 p = true
      · rw [if_pos hl, if_pos hl, ih]
        split
        · rfl
        · rfl
      · rw [if_neg hl, if_neg hl]
        have hn : has r p = false := by
          cases hh : has r p with
          | false => rfl
          | true =>
            obtain ⟨d', hd'⟩ := has_iff.1 hh
            exact absurd (h1 _ hd') hl
        rw [hn, if_neg (by simp)]; rfl
theorem mem_ins {p d : List UInt8} : ∀ {t : List F} {x : F}, x ∈ insP p d t → x = (p, d) ∨ (x ∈ t)
  | [], x, h => by simp [insP] at h; exact .inl h
  | f :: r, x, h => by
    unfold insP at h
    split at h
    · rcases List.mem_cons.1 h with h | h
      · exact .inl h
      · exact .inr (List.mem_cons_of_mem _ h)
    · split at h
      · rcases List.mem_cons.1 h with rfl | h
        · exact .inr List.mem_cons_self
        · rcases mem_ins h with h | h
          · exact .inl h
          · exact .inr (List.mem_cons_of_mem _ h)
      · rcases List.mem_cons.1 h with h | h
        · exact .inl h
        · exact .inr h
theorem ins_srt {p d : List UInt8} : ∀ {t : List F}, Srt t → Srt (insP p d t)
  | [], _ => by simp [insP, Srt]
  | f :: r, hs => by
    obtain ⟨h1, h2⟩ := List.pairwise_cons.1 hs
    unfold insP
    split
    · rename_i e
      exact List.pairwise_cons.2 ⟨fun x hx => by have := h1 x hx; rw [e] at this; exact this, h2⟩
    · rename_i hn
      split
      · rename_i hl
        refine List.pairwise_cons.2 ⟨fun x hx => ?_, ins_srt h2⟩
        rcases mem_ins hx with rfl | hx
        · exact hl
        · exact h1 x hx
      · rename_i hl
        have hpf : lt p f.1 = true := by
          rcases lt_total f.1 p with h | h | h
          · exact absurd h hn
          · exact absurd h hl
          · exact h
        refine List.pairwise_cons.2 ⟨fun x hx => ?_, hs⟩
        rcases List.mem_cons.1 hx with rfl | hx
        · exact hpf
        · exact lt_trans hpf (h1 x hx)
theorem ins_len {p d : List UInt8} : ∀ {t : List F}, Srt t → (insP p d t).length = if has t p = true then t.length else t.length + 1 := by
  intro t hs
  rw [ins_low hs]
  have := low_le p t
  split
  · simp
  · simp; omega
theorem get_ins (p d q : List UInt8) : ∀ t : List F, Srt t → getP q (insP p d t) = if q = p then some d else getP q t
  | [], _ => by
    unfold insP getP
    by_cases h : p = q
    · subst h; simp
    · rw [if_neg h, if_neg (fun e => h e.symm)]; rfl
  | f :: r, hs => by
    obtain ⟨h1, h2⟩ := List.pairwise_cons.1 hs
    have ih := get_ins p d q r h2
    unfold insP
    split
    · rename_i e
      subst e
      unfold getP
      by_cases h : f.1 = q
      · rw [if_pos h, if_pos h.symm]
      · rw [if_neg h, if_neg (fun e => h e.symm), if_neg h]
    · rename_i hn
      split
      · rename_i hl
        unfold getP
        by_cases h : f.1 = q
        · rw [if_pos h, if_pos h, if_neg (fun e => hn (h.trans e))]
        · rw [if_neg h, if_neg h, ih]
      · unfold getP
        by_cases h : p = q
        · subst h; rw [if_pos rfl, if_pos rfl]
        · rw [if_neg h, if_neg (fun e => h e.symm)]
          conv => lhs; unfold getP
theorem has_get (p : List UInt8) : ∀ t : List F, has t p = (getP p t).isSome
  | [] => rfl
  | f :: r => by
    have e : has (f :: r) p = (f.1 == p || has r p) := rfl
    have e3 : getP p (f :: r) = if f.1 = p then some f.2 else getP p r := rfl
    rw [e, has_get p r, e3]
    by_cases h : f.1 = p
    · rw [if_pos h]; simp [h]
    · rw [if_neg h]
      have : (f.1 == p) = false := by simpa using h
      rw [this, Bool.false_or]
theorem has_ins (p d q : List UInt8) (t : List F) (hs : Srt t) : has (insP p d t) q = (q == p || has t q) := by
  rw [has_get, get_ins p d q t hs, has_get]
  by_cases h : q = p
  · simp [h]
  · have : (q == p) = false := by simpa using h
    rw [if_neg h, this, Bool.false_or]
theorem del_sub (p : List UInt8) (t : List F) : (delP p t).Sublist t := List.filter_sublist
theorem del_none {p : List UInt8} {t : List F} (h : has t p = false) : delP p t = t := by
  unfold delP
  rw [List.filter_eq_self]
  intro f hf
  unfold has at h
  rw [List.any_eq_false] at h
  have := h f hf
  simpa using this
/-- A file is dropped at its place. -/
theorem del_low {p : List UInt8} : ∀ {t : List F}, Srt t → has t p = true → delP p t = t.take (lowP p t) ++ t.drop (lowP p t + 1)
  | [], _, h => by simp [has] at h
  | f :: r, hs, h => by
    obtain ⟨h1, h2⟩ := List.pairwise_cons.1 hs
    have e : has (f :: r) p = (f.1 == p || has r p) := rfl
    have e2 : delP p (f :: r) = if f.1 != p then f :: delP p r else delP p r := by
      unfold delP; rw [List.filter_cons]
    rw [e2]
    unfold lowP
    by_cases hfp : f.1 = p
    · have hn : has r p = false := by
        cases hh : has r p with
        | false => rfl
        | true =>
          obtain ⟨d', hd'⟩ := has_iff.1 hh
          have := h1 _ hd'
          rw [hfp, lt_irrefl] at this; cases this
      rw [hfp, lt_irrefl]
      simp [del_none hn]
    · have hb : (f.1 == p) = false := by simpa using hfp
      rw [e, hb, Bool.false_or] at h
      obtain ⟨d', hd'⟩ := has_iff.1 h
      rw [if_pos (h1 _ hd'), del_low h2 h]
      simp [hfp]
theorem has_del (p : List UInt8) (t : List F) : has (delP p t) p = false := by
  unfold has delP
  rw [List.any_eq_false]
  intro f hf
  have := (List.mem_filter.1 hf).2
  simpa using this
theorem del_ins {p d : List UInt8} : ∀ {t : List F}, Srt t → delP p (insP p d t) = delP p t
  | [], _ => by simp [insP, delP]
  | f :: r, hs => by
    obtain ⟨h1, h2⟩ := List.pairwise_cons.1 hs
    have ih := del_ins (p := p) (d := d) h2
    unfold delP at ih ⊢
    unfold insP
    split
    · rename_i e; simp [List.filter_cons, e]
    · rename_i hn
      split
      · rw [List.filter_cons, List.filter_cons, ih]
      · simp [List.filter_cons]
theorem ins_del {p d : List UInt8} : ∀ {t : List F}, Srt t → getP p t = some d → insP p d (delP p t) = t
  | [], _, h => by simp [getP] at h
  | f :: r, hs, h => by
    obtain ⟨h1, h2⟩ := List.pairwise_cons.1 hs
    unfold getP at h
    have e2 : delP p (f :: r) = if f.1 != p then f :: delP p r else delP p r := by
      unfold delP; rw [List.filter_cons]
    rw [e2]
    split at h
    · rename_i hfp
      cases h
      have hn : has r p = false := by
        cases hh : has r p with
        | false => rfl
        | true =>
          obtain ⟨d', hd'⟩ := has_iff.1 hh
          have := h1 _ hd'
          rw [hfp, lt_irrefl] at this; cases this
      have hf : (f.1 != p) = false := by simp [hfp]
      rw [hf, if_neg (by simp), del_none hn]
      subst hfp
      cases r with
      | nil => rfl
      | cons g r =>
        have hg := h1 g List.mem_cons_self
        unfold insP
        rw [if_neg (by intro e; rw [e, lt_irrefl] at hg; cases hg), if_neg (by rw [lt_asymm hg]; simp)]
    · rename_i hfp
      have hf : (f.1 != p) = true := by simp [hfp]
      have hl : lt f.1 p = true := by
        have : has r p = true := by rw [has_get, h]; rfl
        obtain ⟨d', hd'⟩ := has_iff.1 this
        exact h1 _ hd'
      rw [hf, if_pos rfl]
      unfold insP
      rw [if_neg hfp, if_pos hl, ins_del h2 h]
theorem ins_same {p d : List UInt8} : ∀ {t : List F}, Srt t → getP p t = some d → insP p d t = t
  | [], _, h => by simp [getP] at h
  | f :: r, hs, h => by
    obtain ⟨h1, h2⟩ := List.pairwise_cons.1 hs
    unfold getP at h
    unfold insP
    split at h
    · rename_i hfp
      cases h
      rw [if_pos hfp, ← hfp]
    · rename_i hfp
      have hl : lt f.1 p = true := by
        have : has r p = true := by rw [has_get, h]; rfl
        obtain ⟨d', hd'⟩ := has_iff.1 this
        exact h1 _ hd'
      rw [if_neg hfp, if_pos hl, ins_same h2 h]
theorem get_at {t : List F} (hs : Srt t) {i : Nat} (h : i < t.length) : getP t[i].1 t = some t[i].2 := by
  have hh : has t t[i].1 = true := has_iff.2 ⟨t[i].2, List.getElem_mem h⟩
  have hl : lowP t[i].1 t = i := by
    refine (low_unique hs (by omega) (fun j hj hji => List.pairwise_iff_getElem.1 hs j i hj h hji) (fun j hj hij => ?_)).symm
    rcases Nat.eq_or_lt_of_le hij with rfl | hlt
    · exact lt_irrefl _
    · exact lt_asymm (List.pairwise_iff_getElem.1 hs i j h hj hlt)
  rw [get_find, find_low hs hh, hl]
  simp [h]
theorem low_at {t : List F} (hs : Srt t) {i : Nat} (h : i < t.length) : lowP t[i].1 t = i := by
  refine (low_unique hs (by omega) (fun j hj hji => List.pairwise_iff_getElem.1 hs j i hj h hji) (fun j hj hij => ?_)).symm
  rcases Nat.eq_or_lt_of_le hij with rfl | hlt
  · exact lt_irrefl _
  · exact lt_asymm (List.pairwise_iff_getElem.1 hs i j h hj hlt)
/-- Two files are put in either order. -/
theorem ins_comm {p q a b : List UInt8} (hpq : p ≠ q) : ∀ {t : List F}, Srt t → insP q b (insP p a t) = insP p a (insP q b t)
  | [], _ => by
    simp only [insP]
    rcases lt_total p q with h | h | h
    · exact absurd h hpq
    · rw [if_neg hpq, if_pos h, if_neg (fun e => hpq e.symm), if_neg (by rw [lt_asymm h]; simp)]
    · rw [if_neg hpq, if_neg (by rw [lt_asymm h]; simp), if_neg (fun e => hpq e.symm), if_pos h]
  | f :: r, hs => by
    obtain ⟨h1, h2⟩ := List.pairwise_cons.1 hs
    have ih := ins_comm hpq (a := a) (b := b) h2
    by_cases hp : f.1 = p
    · subst hp
      have e1 : insP f.1 a (f :: r) = (f.1, a) :: r := by simp [insP]
      rw [e1]
      by_cases hl : lt f.1 q = true
      · have e2 : insP q b ((f.1, a) :: r) = (f.1, a) :: insP q b r := by simp [insP, hpq, hl]
        have e3 : insP q b (f :: r) = f :: insP q b r := by simp [insP, hpq, hl]
        rw [e2, e3]; simp [insP]
      · have hq : lt q f.1 = true := by
          rcases lt_total f.1 q with h | h | h
          · exact absurd h hpq
          · exact absurd h hl
          · exact h
        have e2 : insP q b ((f.1, a) :: r) = (q, b) :: (f.1, a) :: r := by simp [insP, hpq, hl]
        have e3 : insP q b (f :: r) = (q, b) :: f :: r := by simp [insP, hpq, hl]
        rw [e2, e3]
        simp [insP, hpq.symm, hq]
    · by_cases hq : f.1 = q
      · subst hq
        have e1 : insP f.1 b (f :: r) = (f.1, b) :: r := by simp [insP]
        rw [e1]
        by_cases hl : lt f.1 p = true
        · have e2 : insP p a ((f.1, b) :: r) = (f.1, b) :: insP p a r := by simp [insP, hp, hl]
          have e3 : insP p a (f :: r) = f :: insP p a r := by simp [insP, hp, hl]
          rw [e2, e3]; simp [insP]
        · have hq : lt p f.1 = true := by
            rcases lt_total f.1 p with h | h | h
            · exact absurd h hp
            · exact absurd h hl
            · exact h
          have e2 : insP p a ((f.1, b) :: r) = (p, a) :: (f.1, b) :: r := by simp [insP, hp, hl]
          have e3 : insP p a (f :: r) = (p, a) :: f :: r := by simp [insP, hp, hl]
          rw [e2, e3]
          simp [insP, hpq, hq]
      · by_cases hlp : lt f.1 p = true
        · by_cases hlq : lt f.1 q = true
          · simp [insP, hp, hq, hlp, hlq, ih]
          · have hqp : lt q p = true := by
              rcases lt_total f.1 q with h | h | h
              · exact absurd h hq
              · exact absurd h hlq
              · exact lt_trans h hlp
            simp [insP, hp, hq, hlp, hlq, hpq.symm, hqp]
        · by_cases hlq : lt f.1 q = true
          · have hpq' : lt p q = true := by
              rcases lt_total f.1 p with h | h | h
              · exact absurd h hp
              · exact absurd h hlp
              · exact lt_trans h hlq
            simp [insP, hp, hq, hlp, hlq, hpq, hpq']
          · rcases lt_total p q with h | h | h
            · exact absurd h hpq
            · simp [insP, hp, hq, hlp, hlq, hpq, hpq.symm, h, lt_asymm h]
            · simp [insP, hp, hq, hlp, hlq, hpq, hpq.symm, h, lt_asymm h]

/-! What is put, and dropped. -/
def canPut (t : List F) (p d : List UInt8) : Nat := if rightB p = false ∨ clashT t p = true then 1 else if 600 < d.length ∨ (has t p = false ∧ 16 ≤ t.length) then 2 else 0
theorem clash_symm (a b : List UInt8) : clashB a b = clashB b a := by simp [clashB, Bool.or_comm]
theorem put_right {t : List F} {p d : List UInt8} (h : rightT t = true) (hc : canPut t p d = 0) : rightT (insP p d t) = true := by
  obtain ⟨h1, h2, h3, h4⟩ := (right_iff t).1 h
  unfold canPut at hc
  split at hc
  · cases hc
  · rename_i hn
    split at hc
    · cases hc
    · rename_i hm
      have hp : rightB p = true := by
        cases hp : rightB p with
        | true => rfl
        | false => exact absurd (.inl hp) hn
      have hcl : clashT t p = false := by
        cases hp : clashT t p with
        | false => rfl
        | true => exact absurd (.inr hp) hn
      have hcl2 : ∀ f ∈ t, underB f.1 p = false ∧ underB p f.1 = false := by
        intro f hf
        unfold clashT at hcl
        rw [List.any_eq_false] at hcl
        have := hcl f hf
        simp only [clashB, Bool.or_eq_true, not_or, Bool.not_eq_true] at this
        exact this
      refine (right_iff _).2 ⟨?_, fun f hf => ?_, ins_srt h3, fun f hf x hx => ?_⟩
      · rw [ins_len h3]
        split
        · exact h1
        · rename_i hh
          have hh' : has t p = false := by simpa using hh
          have : ¬ 16 ≤ t.length := fun h => hm (.inr ⟨hh', h⟩)
          omega
      · rcases mem_ins hf with rfl | hf
        · exact ⟨hp, by have : ¬ 600 < d.length := fun h => hm (.inl h); simp only; omega⟩
        · exact h2 f hf
      · rcases mem_ins hf with rfl | hf <;> rcases mem_ins hx with rfl | hx
        · exact under_irrefl _
        · exact (hcl2 x hx).2
        · exact (hcl2 f hf).1
        · exact h4 f hf x hx
theorem sub_right {t u : List F} (h : rightT t = true) (hs : u.Sublist t) : rightT u = true := by
  obtain ⟨h1, h2, h3, h4⟩ := (right_iff t).1 h
  exact (right_iff _).2 ⟨Nat.le_trans hs.length_le h1, fun f hf => h2 f (hs.subset hf), h3.sublist hs, fun f hf x hx => h4 f (hs.subset hf) x (hs.subset hx)⟩
theorem right_srt {t : List F} (h : rightT t = true) : Srt t := ((right_iff t).1 h).2.2.1
theorem clash_ins {t : List F} {p d q : List UInt8} (hs : Srt t) (hc : clashT t q = false) : clashT (insP p d t) q = clashB p q := by
  unfold clashT at *
  cases hb : clashB p q with
  | true =>
    rw [List.any_eq_true]
    have : has (insP p d t) p = true := by rw [has_ins _ _ _ _ hs]; simp
    obtain ⟨d', hd'⟩ := has_iff.1 this
    exact ⟨_, hd', hb⟩
  | false =>
    rw [List.any_eq_false]
    intro f hf
    rcases mem_ins hf with rfl | hf
    · simp [hb]
    · rw [List.any_eq_false] at hc
      exact hc f hf
theorem put_order {t : List F} {p q a b : List UInt8} (hs : Srt t) (hpq : p ≠ q) (h1 : canPut t p a = 0) (h2 : canPut t q b = 0) : canPut (insP p a t) q b = 0 ↔ canPut (insP q b t) p a = 0 := by
  unfold canPut at h1 h2 ⊢
  split at h1
  · cases h1
  rename_i n1
  split at h1
  · cases h1
  rename_i m1
  split at h2
  · cases h2
  rename_i n2
  split at h2
  · cases h2
  rename_i m2
  simp only [not_or, not_and, Bool.not_eq_false, Bool.not_eq_true] at n1 n2 m1 m2
  rw [clash_ins hs n2.2, clash_ins hs n1.2, clash_symm q p, has_ins _ _ _ _ hs, has_ins _ _ _ _ hs, ins_len hs, ins_len hs]
  have e1 : (q == p) = false := by simpa using fun e => hpq e.symm
  have e2 : (p == q) = false := by simpa using hpq
  rw [e1, e2, Bool.false_or, Bool.false_or, n1.1, n2.1]
  cases hb : clashB p q with
  | true => simp
  | false =>
    simp only [Bool.true_eq_false, Bool.false_eq_true, or_self, if_false]
    have m1' := m1.2
    have m2' := m2.2
    cases hp : has t p <;> cases hq : has t q <;> simp only [hp, hq, forall_const, Bool.false_eq_true, if_false, if_true, Bool.true_eq_false, false_implies] at m1' m2' ⊢
    · have l1 := m1.1; have l2 := m2.1
      by_cases h16 : 16 ≤ t.length + 1
      · simp [h16]
      · simp [h16]; omega
    · have l1 := m1.1; have l2 := m2.1
      simp; omega
    · have l1 := m1.1; have l2 := m2.1
      simp; omega
    · have l1 := m1.1; have l2 := m2.1
      simp; omega
end Go.TreeLaw
